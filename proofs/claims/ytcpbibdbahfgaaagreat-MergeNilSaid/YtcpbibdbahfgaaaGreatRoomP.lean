/-
  A room in memory, and what it stands for: a list of keys and chains that rises; sums over it.
-/
import Derived.Test.YtcpbibdbahfgaaaGreatRing
import Derived.Test.YtcpbibdbahfgaaaGreatTreeT
set_option linter.unusedVariables false
set_option autoImplicit false
namespace Go.Eng
section
variable {β : Type} {M : List (ByteArray × β)} {k : ByteArray}
theorem map_ks {γ : Type} (f : ByteArray × β → γ) : ks (M.map fun p => (p.1, f p)) = ks M := by simp [ks]
theorem fnd_split (h : fnd (ks M) k = true) : ∃ v A B, look M k = some v ∧ M = A ++ (k, v) :: B ∧ A.length = lb (ks M) k ∧ (∀ w, put1 M k w = A ++ (k, w) :: B) ∧ dlt M k = A ++ B := by
  have hl := fnd_lt0 h
  rw [ks_length] at hl
  have hk : (M[lb (ks M) k]).1 = k := by
    simp only [fnd] at h
    rw [List.getElem?_eq_getElem (by rw [ks_length]; exact hl)] at h
    have := sEq_iff.1 h
    simpa [ks] using this
  have hs : M = M.take (lb (ks M) k) ++ (k, (M[lb (ks M) k]).2) :: M.drop (lb (ks M) k + 1) := by
    conv => lhs; rw [← List.take_append_drop (lb (ks M) k) M, List.drop_eq_getElem_cons hl]
    congr 2
    exact Prod.ext hk rfl
  refine ⟨(M[lb (ks M) k]).2, M.take (lb (ks M) k), M.drop (lb (ks M) k + 1), ?_, hs, by simp; omega, fun w => ?_, rfl⟩
  · simp [look, h, List.getElem?_eq_getElem hl]
  · unfold put1
    rw [List.set_eq_take_append_cons_drop, if_pos hl]
theorem look_some {v : β} (h : look M k = some v) : fnd (ks M) k = true := by
  unfold look at h
  cases hf : fnd (ks M) k with
  | true => rfl
  | false => rw [hf] at h; cases h
theorem look_map {γ : Type} (f : β → γ) : look (M.map fun p => (p.1, f p.2)) k = (look M k).map f := by
  unfold look
  rw [map_ks (M := M) (fun p => f p.2)]
  cases fnd (ks M) k with
  | false => rfl
  | true =>
    simp only [if_true, List.getElem?_map]
    cases M[lb (ks M) k]? <;> rfl
end
end Go.Eng
namespace Go.Proofs.YtcpbibdbahfgaaaGreat
open Go.Eng
abbrev Mp := List (ByteArray × List Ver)
def sumM (f : ByteArray × List Ver → Int) : Mp → Int
  | [] => 0
  | x :: l => f x + sumM f l
theorem sumM_append (f : ByteArray × List Ver → Int) : ∀ (A B : Mp), sumM f (A ++ B) = sumM f A + sumM f B
  | [], B => by simp [sumM]
  | x :: A, B => by simp only [List.cons_append, sumM, sumM_append f A B]; omega
theorem sumM_bound {f : ByteArray × List Ver → Int} {c : Int} : ∀ {M : Mp}, (∀ p ∈ M, 0 ≤ f p ∧ f p ≤ c) → 0 ≤ sumM f M ∧ sumM f M ≤ c * M.length
  | [], _ => by simp [sumM]
  | x :: l, h => by
    have h1 := h x (by simp)
    have h2 := sumM_bound (M := l) (fun p hp => h p (by simp [hp]))
    simp only [sumM, List.length_cons, Int.natCast_add, Int.mul_add]
    omega
def liveM (M : Mp) : Int := sumM (fun p => lives p.1 p.2) M
def countM (M : Mp) : Int := sumM (fun p => min (lives p.1 p.2) 1) M
def versM (M : Mp) : Int := sumM (fun p => (p.2.length : Int)) M
theorem sum_ins (f : ByteArray × List Ver → Int) (M : Mp) (k : ByteArray) (l : List Ver) : sumM f (ins M k l) = sumM f M + f (k, l) := by
  unfold ins
  conv => rhs; rw [← List.take_append_drop (lb (ks M) k) M]
  rw [sumM_append, sumM_append]
  simp only [sumM]; omega
theorem sum_put1 (f : ByteArray × List Ver → Int) {M : Mp} {k : ByteArray} {old : List Ver} (h : Eng.look M k = some old) (l : List Ver) : sumM f (put1 M k l) = sumM f M - f (k, old) + f (k, l) := by
  obtain ⟨v, A, B, e1, e2, e3, e4, e5⟩ := fnd_split (look_some h)
  rw [h] at e1; obtain rfl := Option.some.inj e1
  rw [e4 l, e2, sumM_append, sumM_append]
  simp only [sumM]; omega
theorem sum_dlt (f : ByteArray × List Ver → Int) {M : Mp} {k : ByteArray} {old : List Ver} (h : Eng.look M k = some old) : sumM f (dlt M k) = sumM f M - f (k, old) := by
  obtain ⟨v, A, B, e1, e2, e3, e4, e5⟩ := fnd_split (look_some h)
  rw [h] at e1; obtain rfl := Option.some.inj e1
  rw [e5, e2, sumM_append, sumM_append]
  simp only [sumM]; omega
theorem lives_le {key : ByteArray} (l : List Ver) (h : key.size ≤ 32) : 0 ≤ lives key l ∧ lives key l ≤ 97 := by
  have := cWeight_le l
  unfold lives
  split <;> omega
theorem labelRight_len {l : List Int} (h : labelRight l = true) : l.length ≤ 6 := by
  simp only [labelRight, Bool.and_eq_true, decide_eq_true_eq] at h
  have := h.1; omega
structure RmX where
  label : List Int
  ring : Int
  quota : Int
  most : Int
  R : RR
  M : Mp
structure PairOk (R : RR) (p : ByteArray × List Ver) : Prop where
  k1 : 1 ≤ p.1.size
  k2 : p.1.size ≤ 32
  c : chainRight p.2 = true
  ne : p.2 ≠ []
  len : (p.2.length : Int) ≤ 1 + (R.seq - R.begin)
  sq : ∀ v ∈ p.2, v.seq ≤ R.seq
structure RmX.ok (X : RmX) : Prop where
  lab : labelRight X.label = true
  r1 : 1 ≤ X.ring ∧ X.ring ≤ 16
  q : 0 ≤ X.quota ∧ X.quota ≤ 1048576
  mo : 1 ≤ X.most ∧ X.most ≤ 1073741824
  rg : X.R.ok
  rs : X.R.size = X.ring
  sm : X.R.seq ≤ X.most
  bg : X.R.seq - X.R.begin ≤ 900000
  ps : ∀ p ∈ X.M, PairOk X.R p
  rise : Rise (ks X.M)
  le : X.M.length ≤ 100000
theorem RmX.ok.live {X : RmX} (ok : X.ok) : 0 ≤ liveM X.M ∧ liveM X.M ≤ 97 * X.M.length := sumM_bound fun p hp => lives_le p.2 (ok.ps p hp).k2
theorem RmX.ok.count {X : RmX} (ok : X.ok) : 0 ≤ countM X.M ∧ countM X.M ≤ 1 * X.M.length := sumM_bound fun p hp => by have := lives_le p.2 (ok.ps p hp).k2; omega
theorem RmX.ok.vers {X : RmX} (ok : X.ok) : 0 ≤ versM X.M ∧ versM X.M ≤ 900001 * X.M.length := sumM_bound fun p hp => by have := (ok.ps p hp).len; have := ok.bg; omega
structure RmI where
  bR : Nat
  bK : Nat
  hL : SH
  hc : SH
  hf : SH
  t : Con
  hdrs : List SH
  cs : List (List Ver)
  free : List Nat
def AllRo (hs : List SH) (cs : List (List Ver)) : HP :=
  ⟨fun r x => ∀ (i : Nat) h c, hs[i]? = some h → cs[i]? = some c → (RoSl eVer h c).P r x, fun hr hx hp i h c e e' => (RoSl eVer h c).mono hr hx (hp i h c e e')⟩
theorem AllRo.get {hs : List SH} {cs : List (List Ver)} {i : Nat} {h : SH} {c : List Ver} (e : hs[i]? = some h) (e' : cs[i]? = some c) : Ent (AllRo hs cs) (RoSl eVer h c) := fun r x hp => hp i h c e e'
theorem AllRo.nil : Ent emp (AllRo [] []) := fun r x _ i h c e _ => by simp at e
theorem AllRo.set {hs : List SH} {cs : List (List Ver)} {i : Nat} {h : SH} {c : List Ver} : Ent (sep (RoSl eVer h c) (AllRo hs cs)) (AllRo (hs.set i h) (cs.set i c)) := by
  rintro r x ⟨x1, x2, hj, hp, hq⟩ j h' c' e e'
  by_cases hji : i = j
  · subst hji
    have h1 : i < hs.length := by have := getLt e; simpa using this
    have h2 : i < cs.length := by have := getLt e'; simpa using this
    rw [List.getElem?_set_self h1] at e
    rw [List.getElem?_set_self h2] at e'
    obtain rfl := Option.some.inj e
    obtain rfl := Option.some.inj e'
    exact (RoSl eVer h c).mono Sub.rfl hj.sub1 hp
  · rw [List.getElem?_set_ne hji] at e e'
    exact (RoSl eVer h' c').mono Sub.rfl hj.sub2 (hq j h' c' e e')
theorem AllRo.push {hs : List SH} {cs : List (List Ver)} {h : SH} {c : List Ver} (hl : hs.length = cs.length) : Ent (sep (RoSl eVer h c) (AllRo hs cs)) (AllRo (hs ++ [h]) (cs ++ [c])) := by
  rintro r x ⟨x1, x2, hj, hp, hq⟩ j h' c' e e'
  by_cases hji : j < hs.length
  · rw [List.getElem?_append_left hji] at e
    rw [List.getElem?_append_left (by omega)] at e'
    exact (RoSl eVer h' c').mono Sub.rfl hj.sub2 (hq j h' c' e e')
  · rw [List.getElem?_append_right (by omega)] at e e'
    have hj0 : j - hs.length = 0 := by have := getLt e; simp at this; omega
    rw [hj0] at e
    rw [← hl, hj0] at e'
    simp at e e'
    subst e e'
    exact (RoSl eVer h c).mono Sub.rfl hj.sub1 hp
abbrev eVS : Enc SH := eSl 138
structure RmRel (X : RmX) (I : RmI) : Prop where
  m : X.M = I.t.map fun p => (p.1, I.cs.getD p.2.toNat [])
  pos : ∀ p ∈ I.t, 0 ≤ p.2
  perm : (I.t.map (fun p => p.2.toNat) ++ I.free).Perm (List.range I.cs.length)
  hl : I.hdrs.length = I.cs.length
  le : I.cs.length ≤ 100000
def RmO (b : Nat) (X : RmX) (I : RmI) : List HP :=
  [Pts b [I.hL.v, .int .i64 X.ring, .int .i64 X.quota, .int .i64 X.most, .pointer (some ⟨I.bR, 0, none⟩), .pointer (some ⟨I.bK, 0, none⟩), I.hc.v, I.hf.v, .int .i64 (liveM X.M), .int .i64 (countM X.M), .int .i64 (versM X.M)] 132,
   Sl eU64 I.hL X.label, RingC I.bR X.R, TreeC I.bK I.t, Sl eVS I.hc I.hdrs, Sl eNat I.hf I.free, AllRo I.hdrs I.cs]
def RoomC (b : Nat) (X : RmX) : HP := ex fun I => sep (lift (RmRel X I)) (seps (RmO b X I))
theorem ent_RmO {b : Nat} {X : RmX} {I : RmI} (rel : RmRel X I) {r : List HP} : Ent (seps (RmO b X I ++ r)) (seps (RoomC b X :: r)) :=
  Ent.append.trans ((ent_lift (p := RmRel X I) rel).trans (ent_ex (f := fun I => sep (lift (RmRel X I)) (seps (RmO b X I))) I))
theorem ent_RmO0 {b : Nat} {X : RmX} {I : RmI} (rel : RmRel X I) : Ent (seps (RmO b X I)) (seps [RoomC b X]) := by
  have := ent_RmO (b := b) rel (r := [])
  rwa [List.append_nil] at this
theorem room_does {f : FuncId} {args : List Value} {b : Nat} {X : RmX} {r : List HP} {Q : Value → List HP → Prop} (h : ∀ I, RmRel X I → Does Tryz.prog f args (RmO b X I ++ r) Q) : Does Tryz.prog f args (RoomC b X :: r) Q :=
  Does.ex1 fun I => Does.lift1 fun rel => Does.pre Ent.append' (h I rel)
/-- The chain of a key. -/
def chainM (M : Mp) (key : ByteArray) : List Ver := (Eng.look M key).getD []
def chainH (I : RmI) (key : ByteArray) : SH := match Eng.look I.t key with
  | some i => I.hdrs.getD i.toNat nilS
  | none => nilS
section
variable {X : RmX} {I : RmI} {key : ByteArray}
theorem RmRel.ks (rel : RmRel X I) : Eng.ks X.M = Eng.ks I.t := by rw [rel.m]; exact map_ks (fun p : ByteArray × Int => I.cs.getD p.2.toNat [])
theorem RmRel.look (rel : RmRel X I) (key : ByteArray) : Eng.look X.M key = (Eng.look I.t key).map (fun i => I.cs.getD i.toNat []) := by
  rw [rel.m]; exact look_map (fun i : Int => I.cs.getD i.toNat [])
theorem RmRel.idx (rel : RmRel X I) {i : Int} (h : Eng.look I.t key = some i) : 0 ≤ i ∧ i.toNat < I.cs.length := by
  obtain ⟨v, A, B, e1, e2, e3, e4, e5⟩ := fnd_split (look_some h)
  rw [h] at e1; obtain rfl := Option.some.inj e1
  have hm : (key, i) ∈ I.t := by rw [e2]; simp
  refine ⟨rel.pos _ hm, ?_⟩
  have : i.toNat ∈ I.t.map (fun p => p.2.toNat) ++ I.free := List.mem_append_left _ (List.mem_map.2 ⟨_, hm, rfl⟩)
  exact List.mem_range.1 (rel.perm.mem_iff.1 this)
theorem RmRel.freeLe (rel : RmRel X I) : I.free.length ≤ 100000 := by
  have h1 := (nodup_range_perm rel.perm).2.2
  have h2 := rel.le
  rw [List.length_append] at h1; omega
theorem Rd.nil {α : Type} {E : Enc α} {w : World} : Rd E nilS ([] : List α) w := ⟨rfl, by simp, .inr ⟨rfl, rfl⟩, fun m c hc => by simp [flat] at hc⟩
theorem RmRel.vis (rel : RmRel X I) (key : ByteArray) : Vis (AllRo I.hdrs I.cs) (Rd eVer (chainH I key) (chainM X.M key)) := by
  unfold chainH chainM
  rw [rel.look key]
  cases h : Eng.look I.t key with
  | none => exact fun _ _ _ => Rd.nil
  | some i =>
    obtain ⟨h1, h2⟩ := rel.idx h
    have e1 : I.hdrs[i.toNat]? = some (I.hdrs.getD i.toNat nilS) := by
      rw [List.getD_eq_getElem?_getD, List.getElem?_eq_getElem (by rw [rel.hl]; exact h2)]; rfl
    have e2 : I.cs[i.toNat]? = some (I.cs.getD i.toNat []) := by
      rw [List.getD_eq_getElem?_getD, List.getElem?_eq_getElem h2]; rfl
    exact RoSl.vis.ent (AllRo.get e1 e2)
theorem RmX.ok.chain (ok : X.ok) (key : ByteArray) : chainRight (chainM X.M key) = true ∧ ((chainM X.M key).length : Int) ≤ 900001 ∧ ∀ v ∈ chainM X.M key, v.seq ≤ X.R.seq := by
  unfold chainM
  cases h : Eng.look X.M key with
  | none => exact ⟨rfl, by simp, by simp⟩
  | some l =>
    obtain ⟨v, A, B, e1, e2, e3, e4, e5⟩ := fnd_split (look_some h)
    rw [h] at e1; obtain rfl := Option.some.inj e1
    have := ok.ps (key, l) (by rw [e2]; simp)
    exact ⟨this.c, by have := this.len; have := ok.bg; simp only [Option.getD_some] at *; omega, this.sq⟩
end
/-! ### How a room's keys turn -/
section
variable {X : RmX} {I : RmI} {key : ByteArray}
theorem RmRel.parts (rel : RmRel X I) {i : Int} (h : Eng.look I.t key = some i) : ∃ A B, I.t = A ++ (key, i) :: B ∧ (∀ p : ByteArray × Int, p ∈ A ∨ p ∈ B → p.2.toNat ≠ i.toNat) ∧ (∀ w, put1 X.M key w = A.map (fun p => (p.1, I.cs.getD p.2.toNat [])) ++ (key, w) :: B.map (fun p => (p.1, I.cs.getD p.2.toNat []))) ∧
    dlt X.M key = A.map (fun p => (p.1, I.cs.getD p.2.toNat [])) ++ B.map (fun p => (p.1, I.cs.getD p.2.toNat [])) ∧ dlt I.t key = A ++ B := by
  obtain ⟨v, A, B, e1, e2, e3, e4, e5⟩ := fnd_split (look_some h)
  rw [h] at e1; obtain rfl := Option.some.inj e1
  have hn := (nodup_range_perm rel.perm).1
  rw [List.nodup_append] at hn
  have hn := hn.1
  rw [e2, List.map_append, List.map_cons, List.nodup_append] at hn
  obtain ⟨n1, n2, n3⟩ := hn
  rw [List.nodup_cons] at n2
  have hlb : lb (Eng.ks X.M) key = A.length := by rw [rel.ks, ← e3]
  refine ⟨A, B, e2, ?_, fun w => ?_, ?_, e5⟩
  · rintro p (hp | hp) e
    · exact n3 p.2.toNat (List.mem_map.2 ⟨p, hp, rfl⟩) i.toNat (by simp) e
    · exact n2.1 (by rw [← e]; exact List.mem_map.2 ⟨p, hp, rfl⟩)
  · unfold put1
    rw [hlb, rel.m, e2, List.map_append, List.map_cons, List.set_append_right _ _ (by simp)]
    simp
  · unfold dlt
    rw [hlb, rel.m, e2, List.map_append, List.map_cons]
    rw [List.take_left' (by simp), List.drop_append]
    simp
theorem getD_set {α : Type} {l : List α} {i j : Nat} {a d : α} (h : j ≠ i) : (l.set i a).getD j d = l.getD j d := by
  rw [List.getD_eq_getElem?_getD, List.getD_eq_getElem?_getD, List.getElem?_set_ne (Ne.symm h)]
theorem getD_self {α : Type} {l : List α} {i : Nat} {a d : α} (h : i < l.length) : (l.set i a).getD i d = a := by
  rw [List.getD_eq_getElem?_getD, List.getElem?_set_self h]; rfl
theorem RmRel.put1 (rel : RmRel X I) {i : Int} (h : Eng.look I.t key = some i) (hh : SH) (xs : List Ver) :
    RmRel ⟨X.label, X.ring, X.quota, X.most, X.R, Eng.put1 X.M key xs⟩ ⟨I.bR, I.bK, I.hL, I.hc, I.hf, I.t, I.hdrs.set i.toNat hh, I.cs.set i.toNat xs, I.free⟩ := by
  obtain ⟨A, B, e1, e2, e3, e4, e5⟩ := rel.parts h
  obtain ⟨h1, h2⟩ := rel.idx h
  refine ⟨?_, rel.pos, by simpa using rel.perm, by simpa using rel.hl, by simpa using rel.le⟩
  simp only []
  rw [e3 xs, e1, List.map_append, List.map_cons]
  congr 1
  · exact List.map_congr_left fun p hp => by rw [getD_set (e2 p (.inl hp))]
  · congr 1
    · rw [getD_self h2]
    · exact List.map_congr_left fun p hp => by rw [getD_set (e2 p (.inr hp))]
theorem RmRel.dlt (rel : RmRel X I) {i : Int} (h : Eng.look I.t key = some i) (hf' : SH) :
    RmRel ⟨X.label, X.ring, X.quota, X.most, X.R, Eng.dlt X.M key⟩ ⟨I.bR, I.bK, I.hL, I.hc, hf', Eng.dlt I.t key, I.hdrs.set i.toNat nilS, I.cs.set i.toNat [], I.free ++ [i.toNat]⟩ := by
  obtain ⟨A, B, e1, e2, e3, e4, e5⟩ := rel.parts h
  refine ⟨?_, fun p hp => rel.pos p ?_, ?_, by simpa using rel.hl, by simpa using rel.le⟩
  · simp only []
    rw [e4, e5, List.map_append]
    congr 1
    · exact List.map_congr_left fun p hp => by rw [getD_set (e2 p (.inl hp))]
    · exact List.map_congr_left fun p hp => by rw [getD_set (e2 p (.inr hp))]
  · rw [e5] at hp
    rw [e1]
    rcases List.mem_append.1 hp with hp | hp <;> simp [hp]
  · simp only [List.length_set]
    have hp := rel.perm
    rw [e1, List.map_append, List.map_cons] at hp
    rw [e5, List.map_append]
    refine List.Perm.trans ?_ hp
    simp only [List.append_assoc, List.cons_append]
    refine List.Perm.append_left _ ?_
    rw [← List.append_assoc]
    exact List.perm_append_comm (l₂ := [i.toNat])
theorem ins_map {β γ : Type} (f : β → γ) (M : List (ByteArray × β)) (k : ByteArray) (v : β) : ins (M.map fun p => (p.1, f p.2)) k (f v) = (ins M k v).map fun p => (p.1, f p.2) := by
  unfold ins
  rw [map_ks (M := M) (fun p => f p.2)]
  simp [List.map_take, List.map_drop]
theorem RmRel.insF (rel : RmRel X I) {fr : List Nat} {i : Nat} (hf : I.free = fr ++ [i]) (hh : SH) (hf' : SH) (xs : List Ver) :
    RmRel ⟨X.label, X.ring, X.quota, X.most, X.R, ins X.M key xs⟩ ⟨I.bR, I.bK, I.hL, I.hc, hf', ins I.t key (i : Int), I.hdrs.set i hh, I.cs.set i xs, fr⟩ := by
  have hP := nodup_range_perm rel.perm
  rw [hf] at hP
  have hi : i < I.cs.length := hP.2.1 i (by simp)
  have hne : ∀ p ∈ I.t, p.2.toNat ≠ i := fun p hp e => by
    have := hP.1
    rw [List.nodup_append] at this
    exact this.2.2 p.2.toNat (List.mem_map.2 ⟨p, hp, rfl⟩) i (by simp) e
  have hm : X.M = I.t.map fun p => (p.1, (I.cs.set i xs).getD p.2.toNat []) := by
    rw [rel.m]
    exact List.map_congr_left fun p hp => by rw [getD_set (hne p hp)]
  refine ⟨?_, fun p hp => ?_, ?_, by simpa using rel.hl, by simpa using rel.le⟩
  · simp only []
    have := ins_map (fun j : Int => (I.cs.set i xs).getD j.toNat []) I.t key (i : Int)
    rw [← this, ← hm]
    congr 1
    exact (getD_self hi).symm
  · unfold ins at hp
    simp only [List.mem_append, List.mem_cons] at hp
    rcases hp with hp | rfl | hp
    · exact rel.pos p (List.mem_of_mem_take hp)
    · simp
    · exact rel.pos p (List.mem_of_mem_drop hp)
  · simp only [List.length_set]
    refine List.Perm.trans ?_ rel.perm
    rw [hf]
    unfold ins
    conv => rhs; rw [← List.take_append_drop (lb (Eng.ks I.t) key) I.t]
    simp only [List.map_append, List.map_cons, List.append_assoc, List.cons_append]
    refine List.Perm.append_left _ ?_
    show (i :: _).Perm _
    rw [← List.append_assoc]
    exact (List.perm_append_comm (l₁ := [i])).trans (by simp)
theorem RmRel.insN (rel : RmRel X I) (hf : I.free = []) (hh : SH) (hc' : SH) (xs : List Ver) (hlt : X.M.length < 100000) :
    RmRel ⟨X.label, X.ring, X.quota, X.most, X.R, ins X.M key xs⟩ ⟨I.bR, I.bK, I.hL, hc', I.hf, ins I.t key (I.cs.length : Int), I.hdrs ++ [hh], I.cs ++ [xs], I.free⟩ := by
  have hP := nodup_range_perm rel.perm
  have hlt' : I.cs.length = X.M.length := by
    have := hP.2.2
    rw [hf] at this
    rw [rel.m]; simp at this ⊢; omega
  have hm : X.M = I.t.map fun p => (p.1, (I.cs ++ [xs]).getD p.2.toNat []) := by
    rw [rel.m]
    refine List.map_congr_left fun p hp => ?_
    have : p.2.toNat < I.cs.length := hP.2.1 _ (List.mem_append_left _ (List.mem_map.2 ⟨p, hp, rfl⟩))
    rw [List.getD_eq_getElem?_getD, List.getD_eq_getElem?_getD, List.getElem?_append_left this]
  refine ⟨?_, fun p hp => ?_, ?_, by simp [rel.hl], by simp; omega⟩
  · simp only []
    have := ins_map (fun j : Int => (I.cs ++ [xs]).getD j.toNat []) I.t key (I.cs.length : Int)
    rw [← this, ← hm]
    congr 1
    simp
  · unfold ins at hp
    simp only [List.mem_append, List.mem_cons] at hp
    rcases hp with hp | rfl | hp
    · exact rel.pos p (List.mem_of_mem_take hp)
    · simp
    · exact rel.pos p (List.mem_of_mem_drop hp)
  · simp only [List.length_append, List.length_singleton]
    rw [List.range_succ]
    have hp := rel.perm
    rw [hf, List.append_nil] at hp ⊢
    refine List.Perm.trans ?_ (hp.append_right _)
    unfold ins
    conv => rhs; rw [← List.take_append_drop (lb (Eng.ks I.t) key) I.t]
    simp only [List.map_append, List.map_cons, List.append_assoc]
    refine List.Perm.append_left _ ?_
    show (I.cs.length :: _).Perm _
    exact List.perm_append_comm (l₁ := [I.cs.length])
end
end Go.Proofs.YtcpbibdbahfgaaaGreat
