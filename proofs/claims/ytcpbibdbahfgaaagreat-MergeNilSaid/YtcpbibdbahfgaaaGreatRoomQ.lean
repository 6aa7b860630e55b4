/-
 What a room's checks and commits come to, in plain terms.
-/
import Derived.Test.YtcpbibdbahfgaaaGreatRoom2
set_option linter.unusedVariables false
set_option autoImplicit false
namespace Go.Proofs.YtcpbibdbahfgaaaGreat
open Go.Eng
theorem notT {b : Bool} (h : (!b) = true) : b = false := by cases b <;> simp_all
theorem notF {b : Bool} (h : (!b) = false) : b = true := by cases b <;> simp_all
def wkeyOk (s : ByteArray) : Bool := decide ((1 : Int) ≤ (s.size : Int)) && decide ((s.size : Int) ≤ 32)
def wrRight (w : Wr) : Bool := wkeyOk w.key && (valRight w.val && !(w.gone && !valEq w.val val0))
def lkLt (o : Option ByteArray) (k : ByteArray) : Bool := match o with | some a => sLt a k | none => true
def mayFrom : Option ByteArray → List Wr → Bool
 | _, [] => true
 | last, w :: r => wrRight w && (lkLt last w.key && mayFrom (some w.key) r)
def mayW (ws : List Wr) : Bool := mayFrom none ws && (decide ((1 : Int) ≤ (ws.length : Int)) && decide ((ws.length : Int) ≤ 16))
def lastK (xs : List Wr) : Nat → Option ByteArray
 | 0 => none
 | i + 1 => (xs[i]?).map (·.key)
theorem lastK_succ {xs : List Wr} {i : Nat} (h : i < xs.length) : lastK xs (i + 1) = some xs[i].key := by simp [lastK, List.getElem?_eq_getElem h]
theorem lastK_pos {xs : List Wr} {i : Nat} (h : 0 < i) (h' : i ≤ xs.length) : lastK xs i = some (xs[i - 1]'(by omega)).key := by
 cases i with
 | zero => omega
 | succ i => simp [lastK, List.getElem?_eq_getElem (show i < xs.length by omega)]
theorem mayFrom_mem : ∀ {ws : List Wr} {last : Option ByteArray}, mayFrom last ws = true → ∀ w ∈ ws, wrRight w = true
 | w :: r, last, h, x, hx => by
  simp only [mayFrom, Bool.and_eq_true] at h
  rcases List.mem_cons.1 hx with rfl | hx
  ·exact h.1
  ·exact mayFrom_mem h.2.2 x hx
theorem mayFrom_rise : ∀ {ws : List Wr} {last : Option ByteArray}, mayFrom last ws = true → Rise (ws.map (·.key)) ∧ ∀ w ∈ ws, lkLt last w.key = true
 | [], _, _ => ⟨trivial, by simp⟩
 | w :: r, last, h => by
  simp only [mayFrom, Bool.and_eq_true] at h
  obtain ⟨h1, h2⟩ := mayFrom_rise h.2.2
  refine ⟨⟨fun b hb => ?_, h1⟩, fun x hx => ?_⟩
  ·obtain ⟨x, hx, rfl⟩ := List.mem_map.1 hb
   exact h2 x hx
  ·rcases List.mem_cons.1 hx with rfl | hx
   ·exact h.2.1
   ·cases last with
    | none => rfl
    | some a => exact sLt_trans h.2.1 (h2 x hx)
theorem wkey_size {k : ByteArray} (h : wkeyOk k = true) : 1 ≤ k.size ∧ k.size ≤ 32 := by
 simp only [wkeyOk, Bool.and_eq_true, decide_eq_true_eq] at h; omega
theorem wr_key {w : Wr} (h : wrRight w = true) : 1 ≤ w.key.size ∧ w.key.size ≤ 32 := by
 simp only [wrRight, Bool.and_eq_true] at h; exact wkey_size h.1
def wAdd (M : Mp) (w : Wr) : Int := (if w.gone then 0 else (w.key.size : Int) + vWeight w.val) - lives w.key (chainM M w.key)
def addW (M : Mp) : List Wr → Int
 | [] => 0
 | w :: r => wAdd M w + addW M r
theorem addW_append (M : Mp) : ∀ (a b : List Wr), addW M (a ++ b) = addW M a + addW M b
 | [], b => by simp [addW]
 | w :: a, b => by simp only [List.cons_append, addW, addW_append M a b]; omega
theorem addW_succ {M : Mp} {ws : List Wr} {i : Nat} (h : i < ws.length) : addW M (ws.take (i + 1)) = addW M (ws.take i) + wAdd M ws[i] := by
 rw [List.take_succ_eq_append_getElem h, addW_append]; simp [addW]
theorem wAdd_bound {M : Mp} {w : Wr} (h : w.key.size ≤ 32) : -97 ≤ wAdd M w ∧ wAdd M w ≤ 97 := by
 have h1 := lives_le (chainM M w.key) h
 have h2 := vWeight_le w.val
 unfold wAdd
 split <;> omega
theorem addW_bound {M : Mp} : ∀ {ws : List Wr}, (∀ w ∈ ws, w.key.size ≤ 32) → -97 * (ws.length : Int) ≤ addW M ws ∧ addW M ws ≤ 97 * (ws.length : Int)
 | [], _ => by simp [addW]
 | w :: r, h => by
  have h1 := wAdd_bound (M := M) (h w (by simp))
  have h2 := addW_bound (M := M) (ws := r) (fun x hx => h x (by simp [hx]))
  simp only [addW, List.length_cons, Int.natCast_add]; omega
def spaceE (X : RmX) (ws : List Wr) : Int := if X.most ≤ X.R.seq then 17 else if X.quota < liveM X.M + addW X.M ws then 15 else 0
def conflW (M : Mp) (seq : Int) : List Wr → Bool
 | [] => false
 | w :: r => (match verLast (chainM M w.key) with | some v => decide (seq < v.seq) | none => false) || conflW M seq r
def checkE (X : RmX) (ws : List Wr) (seq : Int) : Int := if mayW ws then (if decide (X.R.floor ≤ seq) && decide (seq ≤ X.R.seq) then (if conflW X.M seq ws then 13 else spaceE X ws) else 14) else 1
def mPuts (M : Mp) (n : Int) : List Wr → Mp
 | [] => M
 | w :: r => mPuts (mPut M w.key ⟨n, w.gone, w.val⟩) n r
theorem mPuts_append (n : Int) : ∀ (a b : List Wr) (M : Mp), mPuts M n (a ++ b) = mPuts (mPuts M n a) n b
 | [], b, M => rfl
 | w :: a, b, M => mPuts_append n a b _
theorem mPuts_succ {M : Mp} {n : Int} {ws : List Wr} {i : Nat} (h : i < ws.length) : mPuts M n (ws.take (i + 1)) = mPut (mPuts M n (ws.take i)) ws[i].key ⟨n, ws[i].gone, ws[i].val⟩ := by
 rw [List.take_succ_eq_append_getElem h, mPuts_append]; rfl
def commitX (X : RmX) (ws : List Wr) (stamp : Int) : Int × Int × RmX :=
 if mayW ws then (if spaceE X ws = 0 then (if (pushR X.R stamp).2.1 = 0 then ((pushR X.R stamp).1, 0, ⟨X.label, X.ring, X.quota, X.most, (pushR X.R stamp).2.2, mPuts X.M (pushR X.R stamp).1 ws⟩) else (0, (pushR X.R stamp).2.1, X)) else (0, spaceE X ws, X)) else (0, 1, X)
/-! ### Lists that rise, looked into -/
theorem look_mem {M : Mp} (hr : Rise (ks M)) {p : ByteArray × List Ver} (hp : p ∈ M) : Eng.look M p.1 = some p.2 := by
 obtain ⟨i, hi, e⟩ := List.getElem_of_mem hp
 have hk : (ks M)[i]? = some p.1 := by unfold Eng.ks; rw [List.getElem?_map, List.getElem?_eq_getElem hi, e]; rfl
 obtain ⟨h1, h2⟩ := lb_at hr hk
 simp [Eng.look, h1, h2, List.getElem?_eq_getElem hi, e]
theorem chain_mem {M : Mp} (hr : Rise (ks M)) {p : ByteArray × List Ver} (hp : p ∈ M) : chainM M p.1 = p.2 := by simp [chainM, look_mem hr hp]
theorem look_mem' {M : Mp} {k : ByteArray} {l : List Ver} (h : Eng.look M k = some l) : (k, l) ∈ M := by
 obtain ⟨v, A, B, e1, e2, _⟩ := fnd_split (look_some h)
 rw [h] at e1; obtain rfl := Option.some.inj e1
 rw [e2]; simp
theorem look_iff {M : Mp} (hr : Rise (ks M)) {k : ByteArray} {l : List Ver} : Eng.look M k = some l ↔ (k, l) ∈ M := ⟨look_mem', fun h => look_mem hr h⟩
theorem look_ext {M M' : Mp} (hr : Rise (ks M)) (hr' : Rise (ks M')) {k : ByteArray} (h : ∀ l, (k, l) ∈ M ↔ (k, l) ∈ M') : Eng.look M k = Eng.look M' k := by
 cases h1 : Eng.look M k with
 | some l => exact ((look_iff hr').2 ((h l).1 ((look_iff hr).1 h1))).symm
 | none =>
  cases h2 : Eng.look M' k with
  | none => rfl
  | some l => rw [(look_iff hr).2 ((h l).2 ((look_iff hr').1 h2))] at h1; cases h1
theorem mem_ins_iff {M : Mp} {k : ByteArray} {l : List Ver} {p : ByteArray × List Ver} : p ∈ ins M k l ↔ p = (k, l) ∨ p ∈ M := by
 unfold ins
 conv => rhs; rw [← List.take_append_drop (lb (ks M) k) M]
 simp only [List.mem_append, List.mem_cons]
 constructor
 ·rintro (h | h | h)
  ·exact .inr (.inl h)
  ·exact .inl h
  ·exact .inr (.inr h)
 ·rintro (h | h | h)
  ·exact .inr (.inl h)
  ·exact .inl h
  ·exact .inr (.inr h)
theorem mPut_mem {M : Mp} {k : ByteArray} {x : Ver} {p : ByteArray × List Ver} (hp : p ∈ mPut M k x) : p = (k, chainM M k ++ [x]) ∨ p ∈ M := by
 unfold mPut at hp
 cases hf : fnd (ks M) k with
 | true =>
  rw [hf] at hp
  obtain ⟨v, A, B, e1, e2, e3, e4, e5⟩ := fnd_split hf
  simp only [if_true] at hp
  rw [e4] at hp
  rw [e2]
  simp only [List.mem_append, List.mem_cons] at hp ⊢
  rcases hp with h | h | h
  ·exact .inr (.inl h)
  ·exact .inl (by rw [h, ← e2])
  ·exact .inr (.inr (.inr h))
 | false =>
  rw [hf] at hp
  rcases mem_ins_iff.1 hp with h | h
  ·exact .inl (by rw [h, chainM_none hf]; rfl)
  ·exact .inr h
theorem ks_put1 {β : Type} {M : List (ByteArray × β)} {k : ByteArray} (hf : fnd (ks M) k = true) (v : β) : ks (put1 M k v) = ks M := by
 obtain ⟨w, A, B, e1, e2, e3, e4, e5⟩ := fnd_split hf
 rw [e4, e2, ks_append, ks_append]; rfl
theorem mPut_rise {M : Mp} {k : ByteArray} {x : Ver} (hr : Rise (ks M)) : Rise (ks (mPut M k x)) := by
 unfold mPut
 cases hf : fnd (ks M) k with
 | true => simp only [if_true]; rw [ks_put1 hf]; exact hr
 | false =>
  simp only [Bool.false_eq_true, if_false]
  exact rise_ins hr fun h => by rw [(fnd_iff hr).2 h] at hf; cases hf
theorem mPut_len {M : Mp} {k : ByteArray} {x : Ver} : (mPut M k x).length ≤ M.length + 1 := by
 unfold mPut
 cases hf : fnd (ks M) k with
 | true => simp only [if_true, put1, List.length_set]; omega
 | false => simp only [Bool.false_eq_true, if_false]; rw [ins_len]; omega
theorem mPut_other {M : Mp} {k k' : ByteArray} {x : Ver} (hr : Rise (ks M)) (h : k' ≠ k) : chainM (mPut M k x) k' = chainM M k' := by
 unfold chainM
 congr 1
 refine look_ext (mPut_rise hr) hr fun l => ?_
 unfold mPut
 cases hf : fnd (ks M) k with
 | true =>
  obtain ⟨v, A, B, e1, e2, e3, e4, e5⟩ := fnd_split hf
  simp only [if_true]
  rw [e4]
  conv => rhs; rw [e2]
  simp [h]
 | false =>
  simp only [Bool.false_eq_true, if_false]
  rw [mem_ins_iff]
  simp [h]
theorem RmX.ok.mput {X : RmX} (ok : X.ok) {k : ByteArray} {x : Ver} (h1 : 1 ≤ k.size ∧ k.size ≤ 32) (hR : chainRight (chainM X.M k ++ [x]) = true) (hl : ((chainM X.M k).length : Int) ≤ X.R.seq - X.R.begin) (hs : x.seq ≤ X.R.seq) (hlt : X.M.length < 100000) :
  RmX.ok ⟨X.label, X.ring, X.quota, X.most, X.R, mPut X.M k x⟩ :=
 ⟨ok.lab, ok.r1, ok.q, ok.mo, ok.rg, ok.rs, ok.sm, ok.bg, fun p hp => by
  rcases mPut_mem hp with rfl | hp
  ·exact ⟨h1.1, h1.2, hR, by simp, by simp only [List.length_append, List.length_singleton]; omega, fun v hv => by
    rcases List.mem_append.1 hv with hv | hv
    ·exact (ok.chain k).2.2 v hv
    ·simp at hv; rw [hv]; exact hs⟩
  ·exact ok.ps p hp, mPut_rise ok.rise, by have := mPut_len (M := X.M) (k := k) (x := x); simp only; omega⟩
theorem chainFrom_snoc : ∀ {l : List Ver} {last : Int} {x : Ver}, chainFrom last l = true → verRight x = true → (∀ v ∈ l, v.seq < x.seq) → last < x.seq → chainFrom last (l ++ [x]) = true
 | [], last, x, _, hx, _, hl => by simp [chainFrom, hx, hl]
 | v :: r, last, x, h, hx, hv, hl => by
  simp only [chainFrom, Bool.and_eq_true, decide_eq_true_eq, List.cons_append] at h ⊢
  exact ⟨h.1, h.2.1, chainFrom_snoc h.2.2 hx (fun y hy => hv y (by simp [hy])) (hv v (by simp))⟩
/-- What a room is while writes are put. -/
structure Puts (X : RmX) (R' : RR) (n : Int) (ws : List Wr) (i : Nat) : Prop where
 ok : RmX.ok ⟨X.label, X.ring, X.quota, X.most, R', mPuts X.M n (ws.take i)⟩
 len : (mPuts X.M n (ws.take i)).length ≤ X.M.length + i
 out : ∀ k, (∀ w ∈ ws.take i, w.key ≠ k) → chainM (mPuts X.M n (ws.take i)) k = chainM X.M k
structure PutsH (X : RmX) (R' : RR) (ws : List Wr) : Prop where
 ok : X.ok
 rg : R'.ok
 seq : R'.seq = X.R.seq + 1
 bgn : R'.begin = X.R.begin
 size : R'.size = X.R.size
 sm : R'.seq ≤ X.most
 bg : R'.seq - R'.begin ≤ 900000
 may : mayFrom none ws = true
 le : X.M.length + ws.length ≤ 100000
theorem PutsH.zero {X : RmX} {R' : RR} {ws : List Wr} (h : PutsH X R' ws) : Puts X R' R'.seq ws 0 := by
 obtain ⟨ok, h1, h2, h3, h4, h5, h6, h7, h8⟩ := h
 refine ⟨⟨ok.lab, ok.r1, ok.q, ok.mo, h1, h4.trans ok.rs, h5, h6, fun p hp => ?_, ?_, ?_⟩, by simp [mPuts], fun k _ => by simp [mPuts]⟩
 ·have hp' : p ∈ X.M := by simpa [mPuts] using hp
  have := ok.ps p hp'
  exact ⟨this.k1, this.k2, this.c, this.ne, by have := this.len; simp only; omega, fun v hv => by have := this.sq v hv; simp only; omega⟩
 ·simpa [mPuts] using ok.rise
 ·simpa [mPuts] using ok.le
theorem PutsH.key {X : RmX} {R' : RR} {ws : List Wr} (h : PutsH X R' ws) {i : Nat} (hi : i < ws.length) : ∀ w ∈ ws.take i, w.key ≠ ws[i].key := by
 intro w hw e
 have hr := (mayFrom_rise h.may).1
 obtain ⟨j, hj, e2⟩ := List.mem_take_iff_getElem.1 hw
 have h1 := lb_at hr (p := j) (k := w.key) (by rw [List.getElem?_map, List.getElem?_eq_getElem (by omega), e2]; rfl)
 have h2 := lb_at hr (p := i) (k := w.key) (by rw [List.getElem?_map, List.getElem?_eq_getElem hi, e]; rfl)
 omega
theorem PutsH.right {X : RmX} {R' : RR} {ws : List Wr} (h : PutsH X R' ws) {i : Nat} (hi : i < ws.length) (hp : Puts X R' R'.seq ws i) :
  chainM (mPuts X.M R'.seq (ws.take i)) ws[i].key = chainM X.M ws[i].key ∧ chainRight (chainM X.M ws[i].key ++ [⟨R'.seq, ws[i].gone, ws[i].val⟩]) = true := by
 have hw := mayFrom_mem h.may _ (List.getElem_mem hi)
 refine ⟨hp.out _ (h.key hi), ?_⟩
 have hc := h.ok.chain ws[i].key
 have h1 := h.ok.rg.b0
 have h2 := h.ok.rg.b1
 have h3 := h.seq
 have h4 := h.sm
 have h5 := h.ok.mo
 refine chainFrom_snoc hc.1 ?_ (fun v hv => by have := hc.2.2 v hv; simp only; omega) (by simp only; omega)
 simp only [wrRight, Bool.and_eq_true] at hw
 simp only [verRight, Bool.and_eq_true, decide_eq_true_eq]
 refine ⟨by omega, by omega, hw.2.1, ?_⟩
 have := hw.2.2
 cases hg : ws[i].gone <;> simp_all
theorem PutsH.step {X : RmX} {R' : RR} {ws : List Wr} (h : PutsH X R' ws) {i : Nat} (hi : i < ws.length) (hp : Puts X R' R'.seq ws i) : Puts X R' R'.seq ws (i + 1) := by
 obtain ⟨e1, e2⟩ := h.right hi hp
 have hw := mayFrom_mem h.may _ (List.getElem_mem hi)
 have hc := h.ok.chain ws[i].key
 have h3 := h.seq
 have h4 := h.bgn
 have hlen := hp.len
 have hle := h.le
 have hcl : ((chainM X.M ws[i].key).length : Int) ≤ 1 + (X.R.seq - X.R.begin) := by
  unfold chainM
  cases hl : Eng.look X.M ws[i].key with
  | none => have := h.ok.rg.b1; simp; omega
  | some l => exact (h.ok.ps _ (look_mem' hl)).len
 refine ⟨?_, ?_, fun k hk => ?_⟩
 ·rw [mPuts_succ hi]
  exact hp.ok.mput (X := ⟨X.label, X.ring, X.quota, X.most, R', mPuts X.M R'.seq (ws.take i)⟩) (wr_key hw) (by simp only; rw [e1]; exact e2) (by simp only; rw [e1]; omega) (Int.le_refl _) (by simp only; omega)
 ·rw [mPuts_succ hi]
  have := mPut_len (M := mPuts X.M R'.seq (ws.take i)) (k := ws[i].key) (x := ⟨R'.seq, ws[i].gone, ws[i].val⟩)
  omega
 ·rw [mPuts_succ hi, mPut_other hp.ok.rise (fun e => hk ws[i] (by rw [List.take_succ_eq_append_getElem hi]; exact List.mem_append_right _ (List.mem_singleton.2 rfl)) e.symm)]
  exact hp.out k fun w hw => hk w (by rw [List.take_succ_eq_append_getElem hi]; exact List.mem_append_left _ hw)
end Go.Proofs.YtcpbibdbahfgaaaGreat
