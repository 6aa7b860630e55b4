/-
 A tree, closed: what it stands for is a list that rises; and what its functions do to it.
-/
import Derived.Test.YtcpbibdbahfgaaaGreatTreeS6
import Derived.Test.YtcpbibdbahfgaaaGreatTree6
import Derived.Test.YtcpbibdbahfgaaaGreatTree10
import Derived.Test.YtcpbibdbahfgaaaGreatEng11
set_option linter.unusedVariables false
set_option autoImplicit false
namespace Go.Proofs.YtcpbibdbahfgaaaGreat
open Go.Eng
structure Inv (S : TS) (m : Con) : Prop where
 rise : Rise (ks m)
 n : S.n = (m.length : Int)
 le : m.length ≤ 100000
 free : ∀ j ∈ S.free, ∃ d, S.l[j]? = some d ∧ Good d
 shape : (S.root = none ∧ m = [] ∧ S.free.Perm (List.range S.l.length)) ∨ ∃ r h fp z, S.root = some r ∧ Rep h S.l r m fp z ∧ 1 ≤ z ∧ z ≤ 4 ∧ (h = 0 ∨ 2 ≤ z) ∧ (fp ++ S.free).Perm (List.range S.l.length)
 len : S.l.length ≤ 200000
theorem riseAll {l : List Nd} (h : ∀ (i : Nat) (d : Nd), l[i]? = some d → Good d) : RiseAll l := fun i d e => by
 have := h i d e
 exact ⟨this.rise, by have := this.k; omega, by have := this.c; omega⟩
theorem Inv.all {S : TS} {m : Con} (I : Inv S m) : RiseAll S.l := riseAll fun i d e => by
 have hi := getLt e
 rcases I.shape with ⟨h1, h2, h3⟩ | ⟨r, h, fp, z, h1, h2, h3, h4, h5, h6⟩
 ·obtain ⟨d', e', g⟩ := I.free i (h3.mem_iff.2 (List.mem_range.2 hi))
  rw [e] at e'; obtain rfl := Option.some.inj e'; exact g
 ·rcases List.mem_append.1 (h6.mem_iff.2 (List.mem_range.2 hi)) with hx | hx
  ·obtain ⟨d', e', g⟩ := h2.all I.rise (by omega) i hx
   rw [e] at e'; obtain rfl := Option.some.inj e'; exact g
  ·obtain ⟨d', e', g⟩ := I.free i hx
   rw [e] at e'; obtain rfl := Option.some.inj e'; exact g
def TreeC (b : Nat) (m : Con) : HP := ex (fun x : TS × SH × SH × List Nd3 => sep (lift (Inv x.1 m ∧ x.2.2.2.length = x.1.l.length)) (seps (TO b x.1 x.2.1 x.2.2.1 x.2.2.2)))
theorem ent_tree {b : Nat} {m : Con} {S : TS} {hl hf : SH} {hs : List Nd3} (I : Inv S m) (hlen : hs.length = S.l.length) {r : List HP} : Ent (seps (seps (TO b S hl hf hs) :: r)) (seps (TreeC b m :: r)) :=
 (ent_lift (p := Inv S m ∧ hs.length = S.l.length) ⟨I, hlen⟩).trans (ent_ex (f := fun x : TS × SH × SH × List Nd3 => sep (lift (Inv x.1 m ∧ x.2.2.2.length = x.1.l.length)) (seps (TO b x.1 x.2.1 x.2.2.1 x.2.2.2))) (S, hl, hf, hs))
theorem ent_wrap {l : List HP} : Ent (seps l) (seps [seps l]) := Ent.empL.trans Ent.comm
theorem tree_does {f : FuncId} {args : List Value} {b : Nat} {m : Con} {R : Value → Con → Prop}
  (h : ∀ S hl hf hs, Inv S m → hs.length = S.l.length → Does Tryz.prog f args (TO b S hl hf hs) (fun v l => ∃ S' hl' hf' hs' m', Inv S' m' ∧ hs'.length = S'.l.length ∧ l = TO b S' hl' hf' hs' ∧ R v m')) :
  Does Tryz.prog f args [TreeC b m] (fun v l => ∃ m', R v m' ∧ l = [TreeC b m']) := by
 refine Does.ex1 fun ⟨S, hl, hf, hs⟩ => Does.lift1 fun ⟨I, hlen⟩ => ?_
 refine Does.pre Ent.left (Does.fin (h S hl hf hs I hlen) ?_)
 rintro v l ⟨S', hl', hf', hs', m', I', hlen', rfl, hR⟩
 exact ⟨[TreeC b m'], ent_wrap.trans (ent_tree I' hlen'), m', hR, rfl⟩
theorem tree_reads {f : FuncId} {args : List Value} {b : Nat} {m : Con} {R : Value → Prop}
  (h : ∀ S hl hf hs, Inv S m → hs.length = S.l.length → Does Tryz.prog f args (TO b S hl hf hs) (fun v l => R v ∧ l = TO b S hl hf hs)) :
  Does Tryz.prog f args [TreeC b m] (fun v l => R v ∧ l = [TreeC b m]) :=
 (tree_does (R := fun v m' => R v ∧ m' = m) fun S hl hf hs I hlen => (h S hl hf hs I hlen).imp fun v l ⟨hR, hl⟩ => ⟨S, _, _, _, m, I, hlen, hl, hR, rfl⟩).imp fun v l ⟨m', ⟨hR, hm⟩, hl⟩ => ⟨hR, by rw [hl, hm]⟩
/-- New. -/
theorem tree_new : Does Tryz.prog 115 [] [] (fun v l => ∃ b, v = .pointer (some ⟨b, 0, none⟩) ∧ l = [TreeC b []]) := by
 refine Does.fin new_spec ?_
 rintro v l ⟨b, rfl, rfl⟩
 have I : Inv ⟨[], [], none, 0⟩ [] := ⟨trivial, rfl, by simp, by simp, .inl ⟨rfl, rfl, by simp⟩, by simp⟩
 exact ⟨[TreeC b []], ent_wrap.trans (ent_tree I rfl), b, rfl, rfl⟩
theorem look_none {m : Con} {key : ByteArray} (h : fnd (ks m) key = false) : Eng.look m key = none := by simp [Eng.look, h]
def lookV (m : Con) (key : ByteArray) : Value := .tuple #[.int .i64 ((Eng.look m key).getD 0), .bool (Eng.look m key).isSome]
theorem getN_look {d : Nd} {key : ByteArray} {m A B : Con} (hn : d.nums.length = d.keys.length) (hm : m = A ++ (d.keys.zip d.nums ++ B)) (hA : ∀ x ∈ ks A, sLt x key = true) (hB : ∀ x ∈ ks B, sLt key x = true) : getN d key = ((Eng.look m key).getD 0, (Eng.look m key).isSome) := by
 rw [hm, look_mid hA hB, look_zip hn]
 unfold getN
 cases hf : fnd d.keys key with
 | false => rfl
 | true =>
  have hlt := fnd_lt0 hf
  simp only [if_true]
  rw [List.getElem?_eq_getElem (by omega), List.getD_eq_getElem?_getD, List.getElem?_eq_getElem (by omega)]
  simp
/-- Get. -/
theorem tree_get {b : Nat} {m : Con} (key : ByteArray) : Does Tryz.prog 126 [.pointer (some ⟨b, 0, none⟩), .string key] [TreeC b m] (fun v l => v = lookV m key ∧ l = [TreeC b m]) := by
 refine tree_reads fun S hl hf hs I hlen => ?_
 obtain ⟨l, fr, root, n⟩ := S
 rcases I.shape with ⟨h1, h2, h3⟩ | ⟨r, h, fp, z, h1, h2, h3, h4, h5, h6⟩
 ·obtain rfl : root = none := h1
  subst h2
  exact get_none key
 ·obtain rfl : root = some r := h1
  obtain ⟨jl, d, A, B, f1, f2, f3, f4, f5, f6, f7⟩ := h2.dsc (key := key) I.rise
  refine (get_some hlen I.all key f1 f2 f4).imp fun v l ⟨e1, e2⟩ => ⟨?_, e2⟩
  rw [e1, getN_look f4 f5 f6 f7]; rfl
/-- Len. -/
theorem tree_len {b : Nat} {m : Con} : Does Tryz.prog 125 [.pointer (some ⟨b, 0, none⟩)] [TreeC b m] (fun v l => v = .int .i64 (m.length : Int) ∧ l = [TreeC b m]) := by
 refine tree_reads fun S hl hf hs I hlen => ?_
 obtain ⟨l, fr, root, n⟩ := S
 refine len_spec.imp fun v l ⟨e1, e2⟩ => ⟨?_, e2⟩
 rw [e1, ← I.n]
/-- Seek, After. -/
theorem tree_seek {b : Nat} {m : Con} (key : ByteArray) : Does Tryz.prog 138 [.pointer (some ⟨b, 0, none⟩), .string key] [TreeC b m] (fun v l => v = resV (nxt m key false) ∧ l = [TreeC b m]) := by
 refine tree_reads fun S hl hf hs I hlen => ?_
 obtain ⟨l, fr, root, n⟩ := S
 rcases I.shape with ⟨h1, h2, h3⟩ | ⟨r, h, fp, z, h1, h2, h3, h4, h5, h6⟩
 ·obtain rfl : root = none := h1
  subst h2
  exact seek_none key
 ·obtain rfl : root = some r := h1
  exact seek_some hlen I.all key (h2.fst I.rise)
theorem tree_after {b : Nat} {m : Con} (key : ByteArray) : Does Tryz.prog 82 [.pointer (some ⟨b, 0, none⟩), .string key] [TreeC b m] (fun v l => v = resV (nxt m key true) ∧ l = [TreeC b m]) := by
 refine tree_reads fun S hl hf hs I hlen => ?_
 obtain ⟨l, fr, root, n⟩ := S
 rcases I.shape with ⟨h1, h2, h3⟩ | ⟨r, h, fp, z, h1, h2, h3, h4, h5, h6⟩
 ·obtain rfl : root = none := h1
  subst h2
  exact after_none key
 ·obtain rfl : root = some r := h1
  exact after_some hlen I.all key (h2.fst I.rise)
theorem nodup_range_perm {X : List Nat} {N : Nat} (h : X.Perm (List.range N)) : X.Nodup ∧ (∀ j ∈ X, j < N) ∧ X.length = N :=
 ⟨h.nodup_iff.2 List.nodup_range, fun j hj => List.mem_range.1 (h.mem_iff.1 hj), by simpa using h.length_eq⟩
theorem range_perm {X X' : List Nat} {N N' : Nat} (h : X'.Perm (X ++ List.range' N (N' - N))) (hN : N ≤ N') (hX : X.Perm (List.range N)) : X'.Perm (List.range N') := by
 refine h.trans ((hX.append_right _).trans ?_)
 rw [List.range_eq_range', List.range_eq_range']
 have := List.range'_append_1 (s := 0) (m := N) (n := N' - N)
 rw [Nat.zero_add, show N + (N' - N) = N' by omega] at this
 rw [this]
/-- Put, of a key that isn't there. -/
theorem Inv.put {l l' : List Nd} {fr fr' : List Nat} {root : Option Nat} {n : Int} {m : Con} {key : ByteArray} {k : Int} {r h : Nat} {fp' : List Nat} {z : Nat} (I : Inv ⟨l, fr, root, n⟩ m) (hk : key ∉ ks m) (hm : m.length < 100000)
  (hr : Rep h l' r (ins m key k) fp' z) (h1 : 1 ≤ z ∧ z ≤ 4) (h2 : h = 0 ∨ 2 ≤ z) (hp : (fp' ++ fr').Perm (List.range l'.length)) (hl : l.length ≤ l'.length) (hf : ∀ j ∈ fr', j ∈ fr ∧ l'[j]? = l[j]?) (hn : l.length < l'.length → fr' = []) : Inv ⟨l', fr', some r, n + 1⟩ (ins m key k) := by
 have hil := ins_len (M := m) (k := key) (n := k)
 refine ⟨rise_ins I.rise hk, ?_, by omega, fun j hj => ?_, .inr ⟨r, h, fp', z, rfl, hr, h1.1, h1.2, h2, hp⟩, ?_⟩
 ·have := I.n
  simp only at this ⊢
  rw [this, hil]; omega
 ·obtain ⟨h1, h2⟩ := hf j hj
  obtain ⟨d, e, g⟩ := I.free j h1
  exact ⟨d, by rw [← e]; exact h2, g⟩
 ·have hl0 := I.len
  simp only at hl0 ⊢
  by_cases hx : l.length < l'.length
  ·have hfe := hn hx
   subst hfe
   have h3 := (nodup_range_perm hp).2.2
   have h4 := (hr.count ⟨h1.1, h2⟩).1
   rw [List.append_nil] at h3
   omega
  ·omega
theorem tree_put {b : Nat} {m : Con} (key : ByteArray) (k : Int) (hk : key ∉ ks m) (hm : m.length < 100000) : Does Tryz.prog 130 [.pointer (some ⟨b, 0, none⟩), .string key, .int .i64 k] [TreeC b m] (fun v l => v = .tuple #[.int .i64 0, .bool false, .int .i64 0] ∧ l = [TreeC b (ins m key k)]) := by
 refine Does.imp (tree_does (R := fun v m' => v = .tuple #[.int .i64 0, .bool false, .int .i64 0] ∧ m' = ins m key k) fun S hl hf hs I hlen => ?_) (fun v l ⟨m', ⟨h1, h2⟩, h3⟩ => ⟨h1, by rw [h3, h2]⟩)
 obtain ⟨l, fr, root, n⟩ := S
 have hn := I.n
 have hll := I.len
 simp only at hn hll
 rcases I.shape with ⟨h1, h2, h3⟩ | ⟨r, h, fp, z, h1, h2, h3, h4, h5, h6⟩
 ·obtain rfl : root = none := h1
  have hP := nodup_range_perm h3
  obtain ⟨k', l', fr', a1, a2, a3, a4, a5, a6, a7⟩ := add_ex l fr ⟨[key], [k], []⟩ hP.2.1 (by omega) (by have := hP.2.2; simp only at this; omega)
  refine (put_first hlen key k (by omega) (by omega) a1).imp ?_
  rintro v l2 ⟨hl', hf', hs', e1, e2, e3⟩
  have hR : Rep 0 l' k' (ins m key k) [k'] 1 := ⟨_, a2, rfl, rfl, by rw [h2]; rfl, rfl, rfl⟩
  refine ⟨⟨l', fr', some k', n + 1⟩, hl', hf', hs', _, I.put hk hm hR ⟨by omega, by omega⟩ (.inl rfl) ?_ a4 (fun j hj => ?_) (fun hx => ?_), e1, e3, e2, rfl⟩
  ·refine range_perm ?_ a4 h3
   rcases a7 with ⟨e, e2⟩ | ⟨e, e2, e3, e4⟩
   ·simp only [e, e2, Nat.sub_self, List.range'_zero, List.append_nil]
    exact List.perm_append_comm
   ·simp only [e, e2, e4, Nat.add_sub_cancel_left, e3]
    exact List.Perm.refl _
  ·rcases a7 with ⟨e, e2⟩ | ⟨e, e2, e3, e4⟩
   ·have hjf : j ∈ fr := by rw [e]; exact List.mem_append_left _ hj
    refine ⟨hjf, a6 j ?_ (hP.2.1 j hjf)⟩
    have := hP.1
    simp only at this
    rw [e, List.nodup_append] at this
    exact this.2.2 j hj k' (by simp)
   ·rw [e2] at hj; cases hj
  ·rcases a7 with ⟨e, e2⟩ | ⟨e, e2, e3, e4⟩
   ·omega
   ·exact e2
 ·obtain rfl : root = some r := h1
  have hP := nodup_range_perm h6
  simp only at hP h2
  obtain ⟨jl, d, A, B, f1, f2, f3, f4, f5, f6, f7⟩ := h2.dsc (key := key) I.rise
  have hfk : fnd d.keys key = false := by
   cases hq : fnd (ks m) key with
   | true => exact absurd ((fnd_iff I.rise).1 hq) hk
   | false => rw [f5, fnd_mid f6 f7, ks_zip f4] at hq; exact hq
  have hfl : fr.length ≤ l.length := by have := hP.2.2; rw [List.length_append] at this; omega
  have hhm := (h2.count ⟨h3, h5⟩).2
  obtain ⟨l1, fr1, fp1, y, Q⟩ := put_rep (key := key) (n := k) h2 h4 I.rise hk hP.1 hP.2.1 (by omega) (by omega)
  have hri := rise_ins (n := k) I.rise hk
  have hz := Q.zz
  have hql := Q.len
  obtain ⟨dc, hdc, hsz, hgc⟩ := Q.rep.good hri (by omega)
  have hp1 := range_perm Q.perm Q.len.1 h6
  by_cases hy : y ≤ 4
  ·refine (put_new hlen I.all key k f1 f2 hfk (by omega) (by omega) Q.r hdc hgc (.inl ⟨by omega, rfl, rfl, rfl⟩)).imp ?_
   rintro v l2 ⟨hl', hf', hs', e1, e2, e3⟩
   refine ⟨⟨l1, fr1, some r, n + 1⟩, hl', hf', hs', _, I.put hk hm Q.rep ⟨by omega, hy⟩ (by omega) hp1 Q.len.1 Q.fre Q.new, e1, e3, e2, rfl⟩
  ·have hP1 := nodup_range_perm hp1
   have hfl1 := Q.frl
   obtain ⟨k2, s, l2, fr2, A2, B2, fA, fB, zA, zB, S⟩ := split_rep Q.rep (by omega) (by omega) hri hP1.1 hP1.2.1 (by omega) (by omega)
   have hp2 := range_perm S.perm S.len.1 hp1
   have hP2 := nodup_range_perm hp2
   have hsl := S.len
   have hsf := S.frl
   obtain ⟨k3, l3, fr3, a1, a2, a3, a4, a5, a6, a7⟩ := add_ex l2 fr2 ⟨[s], [], [r, k2]⟩ (fun j hj => hP2.2.1 j (List.mem_append_right _ hj)) (by omega) (by omega)
   refine (put_new hlen I.all key k f1 f2 hfk (by omega) (by omega) Q.r hdc hgc (.inr ⟨by omega, k2, s, l2, fr2, k3, S.r, a1, rfl⟩)).imp ?_
   rintro v l4 ⟨hl', hf', hs', e1, e2, e3⟩
   have hk3 : ∀ j ∈ fA ++ fB, j ≠ k3 ∧ j < l2.length := fun j hj => by
    refine ⟨fun e => ?_, hP2.2.1 j (List.mem_append_left _ hj)⟩
    rcases a7 with ⟨e', _⟩ | ⟨_, _, e', _⟩
    ·have := hP2.1
     rw [List.nodup_append] at this
     exact this.2.2 j hj k3 (by rw [e']; simp) e
    ·have := hP2.2.1 j (List.mem_append_left _ hj); omega
   have fr3' : ∀ j ∈ fA ++ fB, l3[j]? = l2[j]? := fun j hj => a6 j (hk3 j hj).1 (hk3 j hj).2
   have hR : Rep (h + 1) l3 k3 (ins m key k) (k3 :: (fA ++ fB)) 2 := by
    refine ⟨_, [⟨r, A2, fA⟩, ⟨k2, B2, fB⟩], a2, rfl, rfl, by rw [S.m]; simp [allM], by simp [allF], rfl, ⟨S.la, by simpa [allM] using S.gb, trivial⟩, fun x hx => ?_⟩
    simp only [List.mem_cons, List.not_mem_nil, or_false] at hx
    rcases hx with rfl | rfl
    ·exact ⟨zA, S.za.1, S.za.2, S.a.frame fun j hj => fr3' j (List.mem_append_left _ hj)⟩
    ·exact ⟨zB, S.zb.1, S.zb.2, S.b.frame fun j hj => fr3' j (List.mem_append_right _ hj)⟩
   refine ⟨⟨l3, fr3, some k3, n + 1⟩, hl', hf', hs', _, I.put hk hm hR ⟨by omega, by omega⟩ (.inr (by omega)) ?_ (by omega) (fun j hj => ?_) (fun hx => ?_), e1, e3, e2, rfl⟩
   ·refine range_perm ?_ a4 hp2
    rcases a7 with ⟨e, e2⟩ | ⟨e, e2, e3, e4⟩
    ·rw [e, e2, Nat.sub_self, List.range'_zero, List.append_nil]
     have : (k3 :: (fA ++ fB) ++ fr3).Perm ((fA ++ fB ++ fr3) ++ [k3]) := List.perm_append_comm (l₁ := [k3])
     rwa [List.append_assoc (fA ++ fB) fr3 [k3]] at this
    ·rw [e, e2, e3, e4, Nat.add_sub_cancel_left, List.append_nil, List.append_nil]
     exact List.perm_append_comm (l₁ := [l2.length])
   ·have hj2 : j ∈ fr2 ∧ j ≠ k3 := by
     rcases a7 with ⟨e, e2⟩ | ⟨e, e2, e3, e4⟩
     ·refine ⟨by rw [e]; exact List.mem_append_left _ hj, ?_⟩
      have := hP2.1
      rw [List.nodup_append, e] at this
      have := this.2.1
      rw [List.nodup_append] at this
      exact this.2.2 j hj k3 (by simp)
     ·rw [e2] at hj; cases hj
    have hs := S.fre j hj2.1
    have hq := Q.fre j hs.1
    exact ⟨hq.1, by rw [a6 j hj2.2 (hP2.2.1 j (List.mem_append_right _ hj2.1)), hs.2, hq.2]⟩
   ·have e0 : fr2 = [] → fr3 = [] := fun h0 => by
     rcases a7 with ⟨e, e2⟩ | ⟨e, e2, e3, e4⟩
     ·rw [h0] at e; simp at e
     ·exact e2
    by_cases c1 : l.length < l1.length
    ·have := Q.new c1
     rw [this] at hsf
     exact e0 (List.length_eq_zero_iff.1 (by simpa using hsf))
    ·by_cases c2 : l1.length < l2.length
     ·exact e0 (S.new c2)
     ·rcases a7 with ⟨e, e2⟩ | ⟨e, e2, e3, e4⟩
      ·omega
      ·exact e2
/-- Del. -/
theorem tree_del {b : Nat} {m : Con} (key : ByteArray) (hk : key ∈ ks m) : Does Tryz.prog 129 [.pointer (some ⟨b, 0, none⟩), .string key] [TreeC b m] (fun v l => v = lookV m key ∧ l = [TreeC b (dlt m key)]) := by
 refine Does.imp (tree_does (R := fun v m' => v = lookV m key ∧ m' = dlt m key) fun S hl hf hs I hlen => ?_) (fun v l ⟨m', ⟨h1, h2⟩, h3⟩ => ⟨h1, by rw [h3, h2]⟩)
 obtain ⟨l, fr, root, n⟩ := S
 have hn := I.n
 have hll := I.len
 have hle := I.le
 simp only at hn hll
 rcases I.shape with ⟨h1, h2, h3⟩ | ⟨r, h, fp, z, h1, h2, h3, h4, h5, h6⟩
 ·rw [h2] at hk; simp [ks] at hk
 ·obtain rfl : root = some r := h1
  have hP := nodup_range_perm h6
  simp only at hP h2
  obtain ⟨jl, d, A, B, f1, f2, f3, f4, f5, f6, f7⟩ := h2.dsc (key := key) I.rise
  have hfm := (fnd_iff I.rise).2 hk
  have hfk : fnd d.keys key = true := by
   have hq := hfm
   rw [f5, fnd_mid f6 f7, ks_zip f4] at hq; exact hq
  have hv : ∀ v : Value, v = .tuple #[.int .i64 (d.nums.getD (lb d.keys key) 0), .bool true] → v = lookV m key := fun v e => by
   have := getN_look f4 f5 f6 f7
   simp only [getN, hfk, if_true] at this
   rw [e]; unfold lookV
   rw [← (Prod.mk.inj this).1, ← (Prod.mk.inj this).2]
  have hfl : fr.length ≤ l.length := by have := hP.2.2; rw [List.length_append] at this; omega
  have hhm := (h2.count ⟨h3, h5⟩).2
  obtain ⟨l1, fr1, fp1, y, Q⟩ := del_rep (key := key) h2 ⟨h3, h5⟩ h4 I.rise hk hP.1 (by omega)
  have hrd := rise_dlt (k := key) I.rise
  have hz := Q.zz
  have hql := Q.len
  have hqf := Q.frl
  obtain ⟨dr, hdr, hsz, hgr⟩ := Q.rep.good hrd (by omega)
  have hp1 : (fp1 ++ fr1).Perm (List.range l1.length) := by rw [hql]; exact Q.perm.trans h6
  have hP1 := nodup_range_perm hp1
  have hlt : lb (ks m) key < m.length := by have := fnd_lt0 hfm; rwa [ks_length] at this
  have hdl : (dlt m key).length + 1 = m.length := by simp [dlt]; omega
  have hfree : ∀ j ∈ fr1, ∃ d, l1[j]? = some d ∧ Good d := fun j hj => by
   rcases Q.fre j hj with hx | hx
   ·obtain ⟨d, e, g⟩ := I.free j hx
    refine ⟨d, ?_, g⟩
    rw [Q.out j fun h0 => ?_]
    ·exact e
    ·have := hP.1
     rw [List.nodup_append] at this
     exact this.2.2 j h0 j hx rfl
   ·exact ⟨_, hx, trivial, by simp [nd0], by simp [nd0], by simp [nd0]⟩
  have hrl := getLt hdr
  have hgn : Good nd0 := ⟨trivial, by simp [nd0], by simp [nd0], by simp [nd0]⟩
  have hfree2 : ∀ j ∈ fr1 ++ [r], ∃ d, (l1.set r nd0)[j]? = some d ∧ Good d := fun j hj => by
   by_cases hjr : j = r
   ·subst hjr; exact ⟨nd0, List.getElem?_set_self hrl, hgn⟩
   ·rw [List.getElem?_set_ne (Ne.symm hjr)]
    rcases List.mem_append.1 hj with hj | hj
    ·exact hfree j hj
    ·simp at hj; exact absurd hj hjr
  cases h with
  | zero =>
   have hdrk : dr.kids = [] ∧ dr.nums.length = dr.keys.length ∧ dlt m key = dr.keys.zip dr.nums ∧ fp1 = [r] ∧ y = dr.keys.length := by
    obtain ⟨d', q1, q2, q3, q4, q5, q6⟩ := Q.rep
    rw [hdr] at q1; obtain rfl := Option.some.inj q1
    exact ⟨q2, q3, q4, q5, q6⟩
   obtain ⟨q2, q3, q4, q5, q6⟩ := hdrk
   by_cases hy : y = 0
   ·have hk0 : dr.keys = [] := List.length_eq_zero_iff.1 (by omega)
    have hd0 : dlt m key = [] := by rw [q4, hk0]; rfl
    refine (Del_last hlen I.all key f1 f2 f4 hfk (by omega) (by omega) Q.r hdr (by omega) q2 hk0).imp ?_
    rintro v l4 ⟨hf', hs', e1, e2, e3⟩
    refine ⟨⟨l1.set r nd0, fr1 ++ [r], none, n - 1⟩, _, hf', hs', _, ⟨hrd, ?_, by omega, hfree2, .inl ⟨rfl, hd0, ?_⟩, by simp; omega⟩, e1, e3, hv v e2, rfl⟩
    ·simp only; omega
    ·simp only [List.length_set]
     rw [q5] at hp1
     exact List.perm_append_comm.trans hp1
   ·refine (Del_stay hlen I.all key f1 f2 f4 hfk (by omega) (by omega) Q.r hdr (by omega) (by rw [q2]; simp) (fun _ h0 => hy (by rw [q6, h0]; rfl))).imp ?_
    rintro v l4 ⟨hf', hs', e1, e2, e3⟩
    refine ⟨⟨l1, fr1, some r, n - 1⟩, _, hf', hs', _, ⟨hrd, by simp only; omega, by omega, hfree, .inr ⟨r, 0, fp1, y, rfl, Q.rep, by omega, by omega, .inl rfl, hp1⟩, by simp only; omega⟩, e1, e3, hv v e2, rfl⟩
  | succ h =>
   have hrep := Q.rep
   have hdrk := Q.rep
   obtain ⟨d', cs, q1, q2, q3, q4, q5, q6, q7, q8⟩ := hdrk
   rw [hdr] at q1; obtain rfl := Option.some.inj q1
   have hkl : dr.kids.length = y := by rw [q2, q6]; simp
   by_cases hy : y = 1
   ·have hc1 : ∃ c, cs = [c] := List.length_eq_one_iff.1 (by omega)
    obtain ⟨c, hc⟩ := hc1
    subst hc
    refine (Del_down hlen I.all key f1 f2 f4 hfk (by omega) (by omega) Q.r hdr (by omega) q2).imp ?_
    rintro v l4 ⟨hf', hs', e1, e2, e3⟩
    obtain ⟨y', y1, y2, y3⟩ := q8 c (by simp)
    have hfc : fp1 = r :: c.fp := by rw [q5]; simp [allF]
    have hrc : r ∉ c.fp := by
     have := hP1.1
     rw [hfc, List.nodup_append] at this
     exact (List.nodup_cons.1 this.1).1
    have hmc : dlt m key = c.m := by rw [q4]; simp [allM]
    refine ⟨⟨l1.set r nd0, fr1 ++ [r], some c.i, n - 1⟩, _, hf', hs', _, ⟨hrd, by simp only; omega, by omega, hfree2, .inr ⟨c.i, h, c.fp, y', rfl, ?_, by omega, by omega, .inr y1, ?_⟩, by simp; omega⟩, e1, e3, hv v e2, rfl⟩
    ·rw [hmc]
     exact y3.frame fun j hj => List.getElem?_set_ne (fun (e : r = j) => hrc (by rw [e]; exact hj))
    ·simp only [List.length_set]
     rw [hfc] at hp1
     refine List.Perm.trans ?_ hp1
     rw [← List.append_assoc]
     exact List.perm_append_comm (l₂ := [r])
   ·have hy2 : 2 ≤ y := by omega
    refine (Del_stay hlen I.all key f1 f2 f4 hfk (by omega) (by omega) Q.r hdr (by omega) (by omega) (fun h0 => by rw [h0] at hkl; simp at hkl; omega)).imp ?_
    rintro v l4 ⟨hf', hs', e1, e2, e3⟩
    refine ⟨⟨l1, fr1, some r, n - 1⟩, _, hf', hs', _, ⟨hrd, by simp only; omega, by omega, hfree, .inr ⟨r, h + 1, fp1, y, rfl, Q.rep, by omega, by omega, .inr hy2, hp1⟩, by simp only; omega⟩, e1, e3, hv v e2, rfl⟩
end Go.Proofs.YtcpbibdbahfgaaaGreat
