/-
 Cursors over rooms: what they come to, in plain terms; and what is asked of their sources.
-/
import Derived.Test.YtcpbibdbahfgaaaGreatRoom3
import Derived.Lib.Bytealg
set_option linter.unusedVariables false
set_option autoImplicit false
namespace Go.Eng
/-- How two strings stand. -/
def cmpS (a b : ByteArray) : Int := if sLt a b then -1 else if sEq a b then 0 else 1
theorem cmpB_eq : ∀ (a b : List UInt8), Lib.compareBytes a b = if Op.bytesLess a b then -1 else if a == b then 0 else 1
 | [], [] => rfl
 | [], _ :: _ => rfl
 | _ :: _, [] => rfl
 | x :: a, y :: b => by
  simp only [Lib.compareBytes, Op.bytesLess]
  by_cases h : x < y
  ·simp [h]
  ·by_cases h2 : y < x
   ·have hne : (x == y) = false := by
     cases hq : x == y with
     | false => rfl
     | true => have := eq_of_beq hq; subst this; exact absurd h2 h
    simp only [h, h2, hne, if_true, if_false, decide_false, Bool.false_or, Bool.false_and]
    have : (x :: a == y :: b) = false := by
     show (x == y && a == b) = false
     rw [hne]; rfl
    rw [this]; rfl
   ·have he : x = y := UInt8.le_antisymm (UInt8.not_lt.1 h2) (UInt8.not_lt.1 h)
    subst he
    rw [cmpB_eq a b]
    simp [h]
theorem cmpS_eq (a b : ByteArray) : Lib.compareBytes a.data.toList b.data.toList = cmpS a b := by
 rw [cmpB_eq, ← ba_toList, ← ba_toList]; rfl
theorem Does.at {P : Program} {f : FuncId} {args : List Value} {A : HP} {R : Value → Prop} (h : Does P f args [A] (fun v l => R v ∧ l = [A])) {l : List HP} (i : Nat) (hA : nth l i = some A) : Does P f args [seps l] (fun v l' => R v ∧ l' = [seps l]) := fun ι F w hw => by
 have h1 : Holds ι w (sep (seps [A]) (sep (seps (del l i)) F)) := by
  refine Holds.ent hw ((Ent.sep Ent.left Ent.rfl).trans ((Ent.sep (Ent.out hA) Ent.rfl).trans (Ent.assoc.trans (Ent.sep (Ent.empL.trans Ent.comm) Ent.rfl))))
 refine (h ι _ w h1).mono ?_
 rintro e w' ⟨v, l', ⟨hR, rfl⟩, he, hw'⟩
 refine ⟨v, _, ⟨hR, rfl⟩, he, hw'.ent ?_⟩
 have hput : put l i A = l := by
  clear h hw h1 hw'
  induction l generalizing i with
  | nil => rfl
  | cons B l ih =>
   cases i with
   | zero => simp [nth] at hA; simp [put, hA]
   | succ i => simp only [put]; rw [ih i hA]
 have hb := Ent.back (l := l) (i := i) (B := A) hA
 rw [hput] at hb
 exact (Ent.sep Ent.left Ent.rfl).trans (Ent.assoc'.trans (Ent.sep (hb.trans (Ent.empL.trans Ent.comm)) Ent.rfl))
end Go.Eng
namespace Go.Proofs.YtcpbibdbahfgaaaGreat
open Go.Eng
abbrev ptrV (o : Option Nat) : Value := .pointer (o.map fun b => ⟨b, 0, none⟩)
structure SrcV where
 room : Option Nat
 seq : Int
 place : Int
def SrcV.cs (s : SrcV) : List Value := [ptrV s.room, .int .i64 s.seq, .int .i64 s.place]
def eSrc : Enc SrcV := ⟨82, 3, SrcV.cs, fun _ => rfl, fun _ c h => by simp [SrcV.cs] at h; rcases h with rfl | rfl | rfl <;> rfl, by decide⟩
def wr0 : Wr := ⟨⟨#[]⟩, false, val0⟩
def row0 : RowT := ⟨0, ⟨#[]⟩, val0⟩
def wrTup (o : Option Wr) : Value := .tuple #[.agg (o.getD wr0).cs.toArray, .bool o.isSome]
abbrev Qr := ByteArray → Bool → Option (ByteArray × Ver)
abbrev Qw := ByteArray → Bool → Option Wr
/-- What is found next. -/
structure Fd where
 key : ByteArray
 val : Val
 is : Bool
 ok : Bool
def fdTup (o : Fd) : Value := .tuple #[.string o.key, .agg o.val.cs.toArray, .bool o.is, .bool o.ok]
def fdRoom (o : Option (ByteArray × Ver)) : Fd := ⟨keyOf o, valOf o, true, o.isSome⟩
def fdSet (o : Option Wr) : Fd := ⟨(o.getD wr0).key, (o.getD wr0).val, !(o.getD wr0).gone, o.isSome⟩
def fdOver (a b : Fd) : Fd := if !a.ok || (b.ok && sLt b.key a.key) then b else a
theorem fdOver_1 {a b : Fd} (h : a.ok = false) : fdOver a b = b := by simp [fdOver, h]
theorem fdOver_2 {a b : Fd} (h : b.ok = true) (h2 : sLt b.key a.key = true) : fdOver a b = b := by simp [fdOver, h, h2]
theorem fdOver_3 {a b : Fd} (h : a.ok = true) (h2 : sLt b.key a.key = false) : fdOver a b = a := by simp [fdOver, h, h2]
theorem fdOver_4 {a b : Fd} (h : a.ok = true) (h2 : b.ok = false) : fdOver a b = a := by simp [fdOver, h, h2]
/-- A source's room answers. -/
structure SrcOk (W : HP) (s : SrcV) (q : Qr) : Prop where
 ok : ∃ b, s.room = some b ∧ (∀ key, Does Tryz.prog 20 [.pointer (some ⟨b, 0, none⟩), .string key, .int .i64 s.seq] [W] (fun v l => v = rowTup (q key true) ∧ l = [W])) ∧
  (∀ key, Does Tryz.prog 99 [.pointer (some ⟨b, 0, none⟩), .string key, .int .i64 s.seq] [W] (fun v l => v = rowTup (q key false) ∧ l = [W]))
/-- Own writes answer. -/
structure OwnOk (V : HP) (p : Option Nat) (q : Qw) : Prop where
 sk : ∀ key, Does Tryz.prog 202 [ptrV p, .string key] [V] (fun v l => v = wrTup (q key false) ∧ l = [V])
 af : ∀ key, Does Tryz.prog 203 [ptrV p, .string key] [V] (fun v l => v = wrTup (q key true) ∧ l = [V])
structure Cu where
 srcs : List SrcV
 frm : ByteArray
 to : ByteArray
 limit : Int
 own : Option Nat
 place : Int
 last : RowT
 told : Int
 done : Bool
def CuP (b : Nat) (C : Cu) (hl : SH) : HP := Pts b [hl.v, .string C.frm, .string C.to, .int .i64 C.limit, ptrV C.own, .int .i64 C.place, .int .i64 C.last.room, .string C.last.key, .bool C.last.val.num, .string C.last.val.text, .int .u64 C.last.val.bits, .int .i64 C.told, .bool C.done] 163
def CuO (b : Nat) (C : Cu) (hl : SH) : List HP := [CuP b C hl, Sl eSrc hl C.srcs]
def rangeRight (frm to : ByteArray) (limit : Int) : Bool := (decide (1 ≤ limit) && decide (limit ≤ 64)) && (sEq to ⟨#[]⟩ || !(sLt to frm || sEq to frm))
def isNilS (s : SrcV) : Bool := s.room.isNone
def prevLt (o : Option Int) (p : Int) : Bool := match o with | some a => decide (a < p) | none => true
def riseFrom : Option Int → List SrcV → Bool
 | _, [] => true
 | last, s :: r => (decide (0 ≤ s.place) && prevLt last s.place) && riseFrom (some s.place) r
def fromC (C : Cu) (s : SrcV) : ByteArray × Bool := if C.told = 0 then (C.frm, false) else (C.last.key, decide (s.place ≤ C.last.room))
def findC (C : Cu) (s : SrcV) (own : Qw) (q : Qr) : ByteArray → Bool → Fd := fun k ab => if s.place = C.place then fdOver (fdSet (own k ab)) (fdRoom (q k ab)) else fdRoom (q k ab)
def seekF (C : Cu) (place : Int) (find : ByteArray → Bool → Fd) : Nat → ByteArray → Bool → Option RowT
 | 0, _, _ => none
 | f + 1, key, ab => if !(find key ab).ok || (!sEq C.to ⟨#[]⟩ && !sLt (find key ab).key C.to) then none else if (find key ab).is then some ⟨place, (find key ab).key, (find key ab).val⟩ else seekF C place find f (find key ab).key true
def rowTupR (o : Option RowT) : Value := .tuple #[.agg (o.getD row0).cs.toArray, .bool o.isSome]
def lessR (x y : RowT) : Bool := sLt x.key y.key || (sEq x.key y.key && decide (x.room < y.room))
def rowStep (best : Option RowT) (r : Option RowT) : Option RowT := match r with
 | none => best
 | some x => match best with
  | none => some x
  | some y => if lessR x y then some x else some y
/-- How far own writes lead. -/
structure OwnMu (own : Qw) (mu : ByteArray → Bool → Nat) : Prop where
 ok : ∀ k ab w, own k ab = some w → mu w.key true < mu k ab
def seekC (C : Cu) (s : SrcV) (own : Qw) (mu : ByteArray → Bool → Nat) (q : Qr) (key : ByteArray) (ab : Bool) : Option RowT := seekF C s.place (findC C s own q) (mu key ab + 1) key ab
def rowsC (C : Cu) (own : Qw) (mu : ByteArray → Bool → Nat) (Q : SrcV → Qr) (l : List SrcV) (best : Option RowT) : Option RowT :=
 l.foldl (fun best s => rowStep best (seekC C s own mu (Q s) (fromC C s).1 (fromC C s).2)) best
def rowC (C : Cu) (own : Qw) (mu : ByteArray → Bool → Nat) (Q : SrcV → Qr) : Option RowT := rowsC C own mu Q C.srcs none
def tellC (C : Cu) (x : RowT) : Cu := ⟨C.srcs, C.frm, C.to, C.limit, C.own, C.place, x, C.told + 1, decide (C.told + 1 = C.limit)⟩
def endC (C : Cu) : Cu := ⟨C.srcs, C.frm, C.to, C.limit, C.own, C.place, C.last, C.told, true⟩
def stepC (own : Qw) (mu : ByteArray → Bool → Nat) (Q : SrcV → Qr) : Nat → Cu → List RowT × Cu
 | 0, C => ([], C)
 | n + 1, C => if C.done then ([], C) else match rowC C own mu Q with
  | some x => (x :: (stepC own mu Q n (tellC C x)).1, (stepC own mu Q n (tellC C x)).2)
  | none => ([], endC C)
theorem step_done {own : Qw} {mu : ByteArray → Bool → Nat} {Q : SrcV → Qr} {n : Nat} {C : Cu} (h : C.done = true) : stepC own mu Q n C = ([], C) := by
 cases n with
 | zero => rfl
 | succ n => simp [stepC, h]
structure Cu.ok (C : Cu) : Prop where
 l1 : 1 ≤ C.limit
 l2 : C.limit ≤ 64
 t0 : 0 ≤ C.told
 t1 : C.told ≤ C.limit
 t2 : C.done = false → C.told < C.limit
 sl : C.srcs.length ≤ 1000000
theorem Cu.ok.tell {C : Cu} (h : C.ok) (hd : C.done = false) (x : RowT) : (tellC C x).ok := by
 have := h.t2 hd
 obtain ⟨a, b, c, d, e, f⟩ := h
 exact ⟨a, b, by simp only [tellC]; omega, by simp only [tellC]; omega, fun hq => by simp only [tellC, decide_eq_false_iff_not] at hq ⊢; omega, f⟩
theorem Cu.ok.fin {C : Cu} (h : C.ok) : (endC C).ok := by
 obtain ⟨a, b, c, d, e, f⟩ := h
 exact ⟨a, b, c, d, fun hq => (by simp [endC] at hq), f⟩
theorem step_some {own : Qw} {mu : ByteArray → Bool → Nat} {Q : SrcV → Qr} {n : Nat} {C : Cu} {x : RowT} (hn : 0 < n) (hd : C.done = false) (h : rowC C own mu Q = some x) : stepC own mu Q n C = (x :: (stepC own mu Q (n - 1) (tellC C x)).1, (stepC own mu Q (n - 1) (tellC C x)).2) := by
 cases n with
 | zero => omega
 | succ n => simp [stepC, hd, h]
theorem step_none {own : Qw} {mu : ByteArray → Bool → Nat} {Q : SrcV → Qr} {n : Nat} {C : Cu} (hn : 0 < n) (hd : C.done = false) (h : rowC C own mu Q = none) : stepC own mu Q n C = ([], endC C) := by
 cases n with
 | zero => omega
 | succ n => simp [stepC, hd, h]
theorem riseFrom_snd {l : List SrcV} {last : Option Int} : riseFrom last l = true → ∀ s ∈ l, 0 ≤ s.place := by
 induction l generalizing last with
 | nil => simp
 | cons s r ih =>
  intro h x hx
  simp only [riseFrom, Bool.and_eq_true, decide_eq_true_eq] at h
  rcases List.mem_cons.1 hx with rfl | hx
  ·exact h.1.1
  ·exact ih h.2 x hx
def lastP (l : List SrcV) : Nat → Option Int
 | 0 => none
 | i + 1 => (l[i]?).map (·.place)
theorem lastP_succ {l : List SrcV} {i : Nat} (h : i < l.length) : lastP l (i + 1) = some l[i].place := by simp [lastP, List.getElem?_eq_getElem h]
theorem lastP_pos {l : List SrcV} {i : Nat} (h : 0 < i) (h' : i ≤ l.length) : lastP l i = some (l[i - 1]'(by omega)).place := by
 cases i with
 | zero => omega
 | succ i => simp [lastP, List.getElem?_eq_getElem (show i < l.length by omega)]
theorem any_take_succ {α : Type} {p : α → Bool} {l : List α} {i : Nat} (h : i < l.length) (h1 : ∀ x ∈ l.take i, p x = false) (h2 : p l[i] = false) : ∀ x ∈ l.take (i + 1), p x = false := fun x hx => by
 rw [List.take_succ_eq_append_getElem h] at hx
 rcases List.mem_append.1 hx with hx | hx
 ·exact h1 x hx
 ·rw [List.mem_singleton.1 hx]; exact h2
end Go.Proofs.YtcpbibdbahfgaaaGreat
