import Derived.WalkKit
import Derived.Orders
import Derived.Below
import Derived.Laws.AppendOwn
import Derived.Calls
import Derived.OpenShut
import Derived.ChangeArms
import Derived.ChangeShapes
import Derived.WideShapes
import Derived.KernelRfl
import Derived.JoinedOf
import Derived.Scope
import Derived.ProofKit
import Derived.ShutString
import Derived.ChangeOld
import Derived.SizedLaws
/- Texts that the proof of UnipolyEvals leans on: what is told of the functions it reaches. -/
namespace Go.Abs
open Go

/-- Plain data: what a cell of memory holds. A slice is the list of its cells. -/
inductive D where
  | int (k : IntKind) (n : Int)
  | bool (b : Bool)
  | lst (n : Nat) (cells : List D)
  deriving Inhabited

structure Blk where
  cells : List D
  live : Bool

/-- What a temporary holds. -/
inductive V where
  | d (x : D)
  | agg (cells : List D)
  | own (b off n sz : Nat)
  | nil
  | ptr (b off : Nat)
  | fptr (cells : List D)
  | fn (f : Nat) (caps : List (Nat × Nat))
  | tup (vs : List V)
  | str (s : ByteArray)
  | junk
  deriving Inhabited

/-- A cell of the heap. -/
def At (H : Array Obj) (B i : Nat) (u : Value) : Prop := ∃ arr T fr, H[B]? = some (.cells arr T fr) ∧ arr[i]? = some u

mutual
def RepD (H : Array Obj) (ok : Nat → Prop) : D → Value → Prop
  | .int k n, v => v = .int k n
  | .bool b, v => v = .bool b
  | .lst n cells, v => ∃ A c, v = .slice A n c ∧ n ≤ c ∧ RepL H ok A 0 cells
def RepL (H : Array Obj) (ok : Nat → Prop) : Option Addr → Nat → List D → Prop
  | _, _, [] => True
  | A, j, d :: ds => (∃ B o u, A = some ⟨B, o, none⟩ ∧ ok B ∧ At H B (o + j) u ∧ RepD H ok d u) ∧ RepL H ok A (j + 1) ds
end

theorem RepL_iff {H : Array Obj} {ok : Nat → Prop} {A : Option Addr} : ∀ {ds : List D} {j : Nat}, RepL H ok A j ds ↔
    ∀ i d, ds[i]? = some d → ∃ B o u, A = some ⟨B, o, none⟩ ∧ ok B ∧ At H B (o + j + i) u ∧ RepD H ok d u := by
  intro ds
  induction ds with
  | nil => intro j; simp [RepL]
  | cons d ds ih =>
    intro j
    simp only [RepL, ih]
    constructor
    · rintro ⟨h0, h1⟩ i x hx
      cases i with
      | zero => simp at hx; subst hx; exact h0
      | succ i =>
        obtain ⟨B, o, u, e, k, g, r⟩ := h1 i x (by simpa using hx)
        exact ⟨B, o, u, e, k, by rw [show o + j + (i + 1) = o + (j + 1) + i by omega]; exact g, r⟩
    · intro h
      refine ⟨h 0 d (by simp), fun i x hx => ?_⟩
      obtain ⟨B, o, u, e, k, g, r⟩ := h (i + 1) x (by simpa using hx)
      exact ⟨B, o, u, e, k, by rw [show o + (j + 1) + i = o + j + (i + 1) by omega]; exact g, r⟩

/-- What was there stays, where `ok` says so. -/
structure Keeps (H H' : Array Obj) (ok ok' : Nat → Prop) : Prop where
  heap : ∀ k, ok k → H'[k]? = H[k]?
  ok : ∀ k, ok k → ok' k

theorem At.keep {H H' : Array Obj} {B i : Nat} {u : Value} (h : At H B i u) (e : H'[B]? = H[B]?) : At H' B i u := by
  obtain ⟨arr, T, fr, h1, h2⟩ := h
  exact ⟨arr, T, fr, by rw [e]; exact h1, h2⟩

mutual
theorem RepD.keep {H H' : Array Obj} {ok ok' : Nat → Prop} (hk : Keeps H H' ok ok') : ∀ (d : D) (v : Value), RepD H ok d v → RepD H' ok' d v
  | .int k n, v, h => by simpa [RepD] using h
  | .bool b, v, h => by simpa [RepD] using h
  | .lst n cells, v, h => by
    simp only [RepD] at h ⊢
    obtain ⟨A, c, e, l, r⟩ := h
    exact ⟨A, c, e, l, RepL.keep hk cells A 0 r⟩
theorem RepL.keep {H H' : Array Obj} {ok ok' : Nat → Prop} (hk : Keeps H H' ok ok') : ∀ (ds : List D) (A : Option Addr) (j : Nat), RepL H ok A j ds → RepL H' ok' A j ds
  | [], _, _, _ => by simp [RepL]
  | d :: ds, A, j, h => by
    simp only [RepL] at h ⊢
    obtain ⟨⟨B, o, u, e, k, g, r⟩, h2⟩ := h
    exact ⟨⟨B, o, u, e, hk.ok _ k, g.keep (hk.heap _ k), RepD.keep hk d u r⟩, RepL.keep hk ds A (j + 1) h2⟩
end

/-- A row of cells, as values. -/
def RepC (H : Array Obj) (ok : Nat → Prop) (cells : List D) (arr : Array Value) (o : Nat) : Prop :=
  ∀ i d, cells[i]? = some d → ∃ u, arr[o + i]? = some u ∧ RepD H ok d u

theorem RepC.keep {H H' : Array Obj} {ok ok' : Nat → Prop} (hk : Keeps H H' ok ok') {cells : List D} {arr : Array Value} {o : Nat} (h : RepC H ok cells arr o) : RepC H' ok' cells arr o := fun i d hd => by
  obtain ⟨u, e, r⟩ := h i d hd
  exact ⟨u, e, RepD.keep hk d u r⟩

mutual
def RepV (H : Array Obj) (ok : Nat → Prop) (β : Nat → Option Nat) : V → Value → Prop
  | .d x, v => RepD H ok x v
  | .agg cells, v => ∃ arr : Array Value, v = .agg arr ∧ arr.size = cells.length ∧ RepC H ok cells arr 0
  | .own b off n sz, v => ∃ A c, v = .slice A n c ∧ n ≤ c ∧
      ((A = none ∧ c = 0) ∨ ∃ B arr T, A = some ⟨B, off, none⟩ ∧ β b = some B ∧ H[B]? = some (.cells arr T (0, 0)) ∧ off + c * sz = arr.size)
  | .nil, v => v = .slice none 0 0
  | .ptr b off, v => ∃ B, β b = some B ∧ v = .pointer (some ⟨B, off, none⟩)
  | .fptr cells, v => ∃ B o, v = .pointer (some ⟨B, o, none⟩) ∧ RepL H ok (some ⟨B, o, none⟩) 0 cells
  | .fn f caps, v => ∃ vs : Array Value, v = .func (.func f) #[] vs ∧ vs.size = caps.length ∧
      ∀ (i : Nat) (p : Nat × Nat), caps[i]? = some p → ∃ B, β p.1 = some B ∧ vs[i]? = some (Value.pointer (some ⟨B, p.2, none⟩))
  | .tup vs, v => ∃ arr : Array Value, v = .tuple arr ∧ arr.size = vs.length ∧ RepVs H ok β vs arr 0
  | .str s, v => v = .string s
  | .junk, _ => True
def RepVs (H : Array Obj) (ok : Nat → Prop) (β : Nat → Option Nat) : List V → Array Value → Nat → Prop
  | [], _, _ => True
  | x :: xs, arr, i => (∃ u, arr[i]? = some u ∧ RepV H ok β x u) ∧ RepVs H ok β xs arr (i + 1)
end

theorem RepVs_iff {H : Array Obj} {ok : Nat → Prop} {β : Nat → Option Nat} {arr : Array Value} : ∀ {xs : List V} {j : Nat}, RepVs H ok β xs arr j ↔
    ∀ i x, xs[i]? = some x → ∃ u, arr[j + i]? = some u ∧ RepV H ok β x u := by
  intro xs
  induction xs with
  | nil => intro j; simp [RepVs]
  | cons x xs ih =>
    intro j
    simp only [RepVs, ih]
    constructor
    · rintro ⟨h0, h1⟩ i y hy
      cases i with
      | zero => simp at hy; subst hy; exact h0
      | succ i =>
        obtain ⟨u, e, r⟩ := h1 i y (by simpa using hy)
        exact ⟨u, by rw [show j + (i + 1) = j + 1 + i by omega]; exact e, r⟩
    · intro h
      refine ⟨h 0 x (by simp), fun i y hy => ?_⟩
      obtain ⟨u, e, r⟩ := h (i + 1) y (by simpa using hy)
      exact ⟨u, by rw [show j + 1 + i = j + (i + 1) by omega]; exact e, r⟩

/-- Same length of every row of cells that is no foreign one: what a store leaves. -/
structure Shape (H H' : Array Obj) : Prop where
  same : ∀ (B : Nat) arr T, H[B]? = some (.cells arr T (0, 0)) → ∃ arr', H'[B]? = some (.cells arr' T (0, 0)) ∧ arr'.size = arr.size

theorem Shape.refl (H : Array Obj) : Shape H H := ⟨fun _ arr _ h => ⟨arr, h, rfl⟩⟩

theorem Shape.trans {a b c : Array Obj} (h : Shape a b) (k : Shape b c) : Shape a c := ⟨fun B arr T e => by
  obtain ⟨x, e1, s1⟩ := h.same B arr T e
  obtain ⟨y, e2, s2⟩ := k.same B x T e1
  exact ⟨y, e2, s2.trans s1⟩⟩

mutual
theorem RepV.keep {H H' : Array Obj} {ok ok' : Nat → Prop} {β β' : Nat → Option Nat} (hk : Keeps H H' ok ok') (hs : Shape H H')
    (hb : ∀ b B, β b = some B → β' b = some B) : ∀ (x : V) (v : Value), RepV H ok β x v → RepV H' ok' β' x v
  | .d x, v, h => by simp only [RepV] at h ⊢; exact RepD.keep hk x v h
  | .agg cells, v, h => by
    simp only [RepV] at h ⊢
    obtain ⟨arr, e, l, r⟩ := h
    exact ⟨arr, e, l, r.keep hk⟩
  | .own b off n sz, v, h => by
    simp only [RepV] at h ⊢
    obtain ⟨A, c, e, l, r⟩ := h
    refine ⟨A, c, e, l, ?_⟩
    rcases r with r | ⟨B, arr, T, e1, e2, e3, e4⟩
    · exact .inl r
    · obtain ⟨arr', g1, g2⟩ := hs.same B arr T e3
      exact .inr ⟨B, arr', T, e1, hb _ _ e2, g1, by rw [g2]; exact e4⟩
  | .nil, v, h => by simpa only [RepV] using h
  | .ptr b off, v, h => by
    simp only [RepV] at h ⊢
    obtain ⟨B, e1, e2⟩ := h
    exact ⟨B, hb _ _ e1, e2⟩
  | .fptr cells, v, h => by
    simp only [RepV] at h ⊢
    obtain ⟨B, o, e, r⟩ := h
    exact ⟨B, o, e, RepL.keep hk cells _ 0 r⟩
  | .fn f caps, v, h => by
    simp only [RepV] at h ⊢
    obtain ⟨vs, e, l, r⟩ := h
    refine ⟨vs, e, l, fun i p hp => ?_⟩
    obtain ⟨B, e1, e2⟩ := r i p hp
    exact ⟨B, hb _ _ e1, e2⟩
  | .tup vs, v, h => by
    simp only [RepV] at h ⊢
    obtain ⟨arr, e, l, r⟩ := h
    exact ⟨arr, e, l, RepVs.keep hk hs hb vs arr 0 r⟩
  | .str s, v, h => by simpa only [RepV] using h
  | .junk, v, h => by simp only [RepV]
theorem RepVs.keep {H H' : Array Obj} {ok ok' : Nat → Prop} {β β' : Nat → Option Nat} (hk : Keeps H H' ok ok') (hs : Shape H H')
    (hb : ∀ b B, β b = some B → β' b = some B) : ∀ (xs : List V) (arr : Array Value) (j : Nat), RepVs H ok β xs arr j → RepVs H' ok' β' xs arr j
  | [], _, _, _ => by simp only [RepVs]
  | x :: xs, arr, j, h => by
    simp only [RepVs] at h ⊢
    obtain ⟨⟨u, e, r⟩, h2⟩ := h
    exact ⟨⟨u, e, RepV.keep hk hs hb x u r⟩, RepVs.keep hk hs hb xs arr (j + 1) h2⟩
end

/-- A block of the call's own: its first cells are told; if it is live, no reading leans on it. -/
def BlkAt (H : Array Obj) (ok : Nat → Prop) (B : Nat) (k : Blk) : Prop :=
  ∃ arr T, H[B]? = some (.cells arr T (0, 0)) ∧ k.cells.length ≤ arr.size ∧ RepC H ok k.cells arr 0 ∧ (k.live = true → ¬ ok B) ∧ (k.live = false → ok B)

end Go.Abs

namespace Go.Abs
open Go

/-- The abstract state: temporaries, the call's own blocks, the first number that no block bears. -/
structure St where
  env : List (Nat × V)
  mem : List (Nat × Option Blk)
  next : Nat

def St.get (s : St) (t : Nat) : V := (s.env.lookup t).getD .junk
def St.blk (s : St) (b : Nat) : Option Blk := (s.mem.lookup b).join

def setA {α : Type} : List (Nat × α) → Nat → α → List (Nat × α)
  | [], k, v => [(k, v)]
  | (k', v') :: l, k, v => if k' = k then (k, v) :: l else (k', v') :: setA l k v

theorem lookup_setA {α : Type} (l : List (Nat × α)) (k : Nat) (v : α) (j : Nat) : (setA l k v).lookup j = if j = k then some v else l.lookup j := by
  induction l with
  | nil =>
    simp only [setA, List.lookup_cons, List.lookup_nil]
    by_cases h : j = k
    · simp [h]
    · have : (j == k) = false := by simpa using h
      simp [h, this]
  | cons p l ih =>
    obtain ⟨k', v'⟩ := p
    simp only [setA]
    by_cases h : k' = k
    · subst h
      simp only [if_true, List.lookup_cons]
      by_cases h' : j = k'
      · simp [h']
      · have : (j == k') = false := by simpa using h'
        simp [h', this]
    · rw [if_neg h]
      simp only [List.lookup_cons, ih]
      by_cases h' : j = k'
      · subst h'; simp [h]
      · have : (j == k') = false := by simpa using h'
        simp [this]

structure Upd where
  w : List (Nat × Option Blk)
  dst : Option (Nat × V)

def setsA {α : Type} : List (Nat × α) → List (Nat × α) → List (Nat × α)
  | l, [] => l
  | l, (k, v) :: r => setsA (setA l k v) r

def St.apply (s : St) (u : Upd) : St :=
  { env := match u.dst with | some (t, v) => setA s.env t v | none => s.env
    mem := setsA s.mem u.w
    next := s.next }

inductive Loc where
  | t (n : Nat)
  | b (n : Nat)
  deriving DecidableEq

inductive Val where
  | v (x : V)
  | k (x : Option Blk)

def St.at (s : St) : Loc → Val
  | .t n => .v (s.get n)
  | .b n => .k (s.blk n)

def wval : List (Nat × Option Blk) → Nat → Option (Option Blk)
  | [], _ => none
  | (k, v) :: r, b => match wval r b with
    | some x => some x
    | none => if b = k then some v else none

def Upd.at (u : Upd) : Loc → Option Val
  | .t n => match u.dst with | some (t, v) => if n = t then some (.v v) else none | none => none
  | .b n => (wval u.w n).map .k

theorem lookup_setsA (l r : List (Nat × Option Blk)) (j : Nat) : (setsA l r).lookup j = ((wval r j).map some).getD (l.lookup j) := by
  induction r generalizing l with
  | nil => simp [setsA, wval]
  | cons p r ih =>
    obtain ⟨k, v⟩ := p
    simp only [setsA, ih, wval, lookup_setA]
    cases h : wval r j with
    | some x => simp
    | none =>
      by_cases e : j = k <;> simp [e]

theorem St.at_apply (s : St) (u : Upd) (x : Loc) : (s.apply u).at x = (u.at x).getD (s.at x) := by
  cases x with
  | t n =>
    simp only [St.at, Upd.at, St.get, St.apply]
    cases h : u.dst with
    | none => simp
    | some p =>
      obtain ⟨t, v⟩ := p
      simp only [lookup_setA]
      by_cases e : n = t <;> simp [e]
  | b n =>
    simp only [St.at, Upd.at, St.blk, St.apply, lookup_setsA]
    cases h : wval u.w n <;> simp

theorem wval_none_of {w : List (Nat × Option Blk)} {b : Nat} (h : b ∉ w.map (·.1)) : wval w b = none := by
  induction w with
  | nil => rfl
  | cons p r ih =>
    obtain ⟨k, v⟩ := p
    simp only [List.map_cons, List.mem_cons, not_or] at h
    simp [wval, ih h.2, h.1]

structure Ctx where
  P : Program
  w0 : World
  ok0 : Nat → Prop
  lent : Nat → Prop
  nt : Nat
  β0 : Nat → Option Nat
  lids : List Nat

/-- What of the world the call may not turn, and what it may lean on. -/
structure Frame (C : Ctx) (w : World) (ok : Nat → Prop) : Prop where
  os : w.os = C.w0.os
  tape : w.tape = C.w0.tape
  output : w.output = C.w0.output
  size : C.w0.heap.size ≤ w.heap.size
  keep : ∀ k, k < C.w0.heap.size → ¬ C.lent k → w.heap[k]? = C.w0.heap[k]?
  lo : ∀ k, C.ok0 k → ok k
  hi : ∀ k, ok k → C.ok0 k ∨ C.lent k ∨ C.w0.heap.size ≤ k
  lt : ∀ k, ok k → k < w.heap.size
  shape : Shape C.w0.heap w.heap

structure SimAt (C : Ctx) (s : Loc → Val) (A : Nat → Prop) (a : Act) (w : World) (ok : Nat → Prop) (β : Nat → Option Nat) : Prop where
  defers : a.defers = []
  nt : a.tmps.size = C.nt
  frame : Frame C w ok
  env : ∀ t x, s (.t t) = .v x → RepV w.heap ok β x (a.tmps.getD t undef)
  mem : ∀ b k, s (.b b) = .k (some k) → (β b = none ∧ k.cells = []) ∨ ∃ B, β b = some B ∧ BlkAt w.heap ok B k ∧ (C.lent B ∨ C.w0.heap.size ≤ B)
  inj : ∀ b b' B k k', s (.b b) = .k (some k) → s (.b b') = .k (some k') → β b = some B → β b' = some B → b = b'
  used : ∀ b B, β b = some B → A b
  mused : ∀ b k, s (.b b) = .k (some k) → A b
  ltd : ∀ b ∈ C.lids, β b = C.β0 b
  lused : ∀ b ∈ C.lids, A b

def SimA (C : Ctx) (s : St) (A : Nat → Prop) (a : Act) (w : World) : Prop := ∃ ok β, SimAt C s.at A a w ok β

theorem SimA.congr {C : Ctx} {s s' : St} {A A' : Nat → Prop} {a : Act} {w : World} (h : SimA C s A a w) (e : ∀ x, s.at x = s'.at x) (hA : ∀ b, A b → A' b) : SimA C s' A' a w := by
  obtain ⟨ok, β, h⟩ := h
  have e' : s.at = s'.at := funext e
  rw [e'] at h
  exact ⟨ok, β, h.defers, h.nt, h.frame, h.env, h.mem, h.inj, fun b B hb => hA _ (h.used b B hb), fun b k hb => hA _ (h.mused b k hb), h.ltd, fun b hb => hA _ (h.lused b hb)⟩

/-! ### Any order -/

/-- The direct forerunners of an operation. -/
def preds (o : Oper) : List Nat := o.after.toList.filterMap fun e => if Region.binds .any e then some e.on else none

inductive Reach (ops : List Oper) : Nat → Nat → Prop where
  | one {i j : Nat} {o : Oper} : ops[j]? = some o → i ∈ preds o → Reach ops i j
  | more {i p j : Nat} {o : Oper} : ops[j]? = some o → p ∈ preds o → Reach ops i p → Reach ops i j

def bitsOf (acc : List Nat) : List Nat → Nat
  | [] => 0
  | p :: ps => ((1 <<< p) ||| acc.getD p 0) ||| bitsOf acc ps

def ancTab : List Oper → List Nat → List Nat
  | [], acc => acc
  | o :: os, acc => ancTab os (acc ++ [bitsOf acc (preds o)])

theorem bitsOf_spec {acc : List Nat} {i : Nat} : ∀ {ps : List Nat}, (bitsOf acc ps).testBit i = true → ∃ p ∈ ps, i = p ∨ (acc.getD p 0).testBit i = true := by
  intro ps
  induction ps with
  | nil => simp [bitsOf]
  | cons p ps ih =>
    intro h
    simp only [bitsOf, Nat.testBit_or, Bool.or_eq_true] at h
    rcases h with (h | h) | h
    · refine ⟨p, by simp, .inl ?_⟩
      rw [Nat.one_shiftLeft, Nat.testBit_two_pow] at h
      simpa using (of_decide_eq_true h).symm
    · exact ⟨p, by simp, .inr h⟩
    · obtain ⟨q, hq, r⟩ := ih h
      exact ⟨q, by simp [hq], r⟩

theorem ancTab_spec (all : List Oper) : ∀ (l : List Oper) (acc : List Nat), (∀ j, l[j]? = all[acc.length + j]?) →
    (∀ i j, (acc.getD j 0).testBit i = true → Reach all i j) → ∀ i j, ((ancTab l acc).getD j 0).testBit i = true → Reach all i j := by
  intro l
  induction l with
  | nil => intro acc _ h; exact h
  | cons o os ih =>
    intro acc he h
    simp only [ancTab]
    have ho : all[acc.length]? = some o := by have := he 0; simpa using this.symm
    refine ih _ (fun j => ?_) (fun i j hb => ?_)
    · have := he (j + 1)
      simp only [List.getElem?_cons_succ] at this
      rw [this]; simp only [List.length_append, List.length_cons, List.length_nil]
      congr 1; omega
    · rcases Nat.lt_trichotomy j acc.length with hj | hj | hj
      · rw [List.getD_eq_getElem?_getD, List.getElem?_append_left hj, ← List.getD_eq_getElem?_getD] at hb
        exact h i j hb
      · subst hj
        rw [List.getD_eq_getElem?_getD, List.getElem?_append_right (Nat.le_refl _)] at hb
        simp only [Nat.sub_self, List.getElem?_cons_zero, Option.getD_some] at hb
        obtain ⟨p, hp, hq⟩ := bitsOf_spec hb
        rcases hq with rfl | hq
        · exact .one ho hp
        · exact .more ho hp (h i p hq)
      · rw [List.getD_eq_getElem?_getD, List.getElem?_append_right (by omega), List.getElem?_eq_none (by simp; omega)] at hb
        simp at hb

/-- Every binding edge leads back. -/
def backB : Nat → List Oper → Bool
  | _, [] => true
  | i, o :: os => (preds o).all (fun p => decide (p < i)) && backB (i + 1) os

theorem backB_spec : ∀ {l : List Oper} {i : Nat}, backB i l = true → ∀ j o, l[j]? = some o → ∀ p ∈ preds o, p < i + j := by
  intro l
  induction l with
  | nil => intro i _ j o h; simp at h
  | cons x l ih =>
    intro i h j o ho p hp
    simp only [backB, Bool.and_eq_true, List.all_eq_true, decide_eq_true_eq] at h
    cases j with
    | zero => simp at ho; subst ho; simpa using h.1 p hp
    | succ j => have := ih h.2 j o (by simpa using ho) p hp; omega

/-- The temporaries that an operation looks at. -/
def looks (ops : List Oper) (o : Oper) : List Nat :=
  (o.op.operands.toList.filterMap fun | .tmp t => some t | _ => none) ++
  (match o.guard with
   | some (g, _) => ((ops[g]?).bind (·.dst)).toList
   | none => [])

abbrev Trace := List (List Nat × List Nat)

def disj (l r : List Nat) : Bool := l.all fun x => !r.contains x

theorem disj_spec {l r : List Nat} (h : disj l r = true) {x : Nat} (hl : x ∈ l) (hr : x ∈ r) : False := by
  simp only [disj, List.all_eq_true] at h
  have := h x hl
  simp at this
  exact this hr

/-- Two operations that may come up in either order do not get into each other's way. -/
def indep1 (ops : List Oper) (x y : Oper) (tx ty : List Nat × List Nat) : Bool :=
  disj x.dst.toList (looks ops y) && disj x.dst.toList y.dst.toList && disj y.dst.toList (looks ops x) &&
  disj tx.2 ty.1 && disj tx.2 ty.2 && disj ty.2 tx.1

def indepB (ops : List Oper) (tr : Trace) : Bool :=
  backB 0 ops &&
  (let anc := ancTab ops []
   (List.range ops.length).all fun j => (List.range j).all fun i =>
    (anc.getD j 0).testBit i || (match ops[i]?, ops[j]?, tr[i]?, tr[j]? with
      | some x, some y, some tx, some ty => indep1 ops x y tx ty
      | _, _, _, _ => false))

/-- What operation number i reads and writes. -/
def rdOf (ops : List Oper) (tr : Trace) (i : Nat) : Loc → Prop
  | .t n => ∃ o, ops[i]? = some o ∧ n ∈ looks ops o
  | .b n => ∃ t, tr[i]? = some t ∧ n ∈ t.1
def wrOf (ops : List Oper) (tr : Trace) (i : Nat) : Loc → Prop
  | .t n => ∃ o, ops[i]? = some o ∧ o.dst = some n
  | .b n => ∃ t, tr[i]? = some t ∧ n ∈ t.2

theorem indepB_spec {ops : List Oper} {tr : Trace} (h : indepB ops tr = true) {i j : Nat} (hij : i < j) (hj : j < ops.length) (hr : ¬ Reach ops i j) (x : Loc) :
    (wrOf ops tr i x → rdOf ops tr j x → False) ∧ (wrOf ops tr i x → wrOf ops tr j x → False) ∧ (wrOf ops tr j x → rdOf ops tr i x → False) := by
  simp only [indepB, Bool.and_eq_true, List.all_eq_true, List.mem_range, Bool.or_eq_true] at h
  have h1 := h.2 j hj i hij
  rcases h1 with h1 | h1
  · exact absurd (ancTab_spec ops ops [] (by simp) (by simp) i j h1) hr
  · split at h1
    · rename_i a b c d ha hb hc hd
      simp only [indep1, Bool.and_eq_true] at h1
      obtain ⟨⟨⟨⟨⟨d1, d2⟩, d3⟩, d4⟩, d5⟩, d6⟩ := h1
      cases x with
      | t n =>
        simp only [wrOf, rdOf, ha, hb, Option.some.injEq]
        refine ⟨?_, ?_, ?_⟩
        · rintro ⟨o, rfl, e⟩ ⟨o', rfl, m⟩
          exact disj_spec d1 (by simp [e]) m
        · rintro ⟨o, rfl, e⟩ ⟨o', rfl, m⟩
          exact disj_spec d2 (x := n) (by simp [e]) (by simp [m])
        · rintro ⟨o, rfl, e⟩ ⟨o', rfl, m⟩
          exact disj_spec d3 (by simp [e]) m
      | b n =>
        simp only [wrOf, rdOf, hc, hd, Option.some.injEq]
        refine ⟨?_, ?_, ?_⟩
        · rintro ⟨o, rfl, e⟩ ⟨o', rfl, m⟩
          exact disj_spec d4 e m
        · rintro ⟨o, rfl, e⟩ ⟨o', rfl, m⟩
          exact disj_spec d5 e m
        · rintro ⟨o, rfl, e⟩ ⟨o', rfl, m⟩
          exact disj_spec d6 e m
    · cases h1

def stAfter (U : Nat → Upd) (s : St) (L : Nat → Bool) : Nat → St
  | 0 => s
  | m + 1 => if L m then (stAfter U s L m).apply (U m) else stAfter U s L m

section
variable {U : Nat → Upd} {s : St} {L : Nat → Bool} {i : Nat} {n : Nat}

theorem stAfter_read {x : Loc} (hL : L i = false) (hlo : ∀ m, m < i → L m = false → (U m).at x = none) (hhi : ∀ m, i < m → m < n → L m = true → (U m).at x = none) :
    ∀ m, m ≤ n → (stAfter U s L m).at x = (stAfter U s (fun _ => true) (min m i)).at x := by
  intro m
  induction m with
  | zero => intro _; simp [stAfter]
  | succ m ih =>
    intro hm
    have ih := ih (by omega)
    rcases Nat.lt_trichotomy m i with h | h | h
    · rw [show min (m + 1) i = m + 1 by omega]
      rw [show min m i = m by omega] at ih
      simp only [stAfter, if_true]
      cases e : L m with
      | true => simp only [if_true, St.at_apply, ih]
      | false => simp only [Bool.false_eq_true, if_false, St.at_apply, hlo m h e, Option.getD_none, ih]
    · subst h
      rw [show min (m + 1) m = m by omega]
      rw [show min m m = m by omega] at ih
      simp only [stAfter, hL, Bool.false_eq_true, if_false, ih]
    · rw [show min (m + 1) i = i by omega]
      rw [show min m i = i by omega] at ih
      simp only [stAfter]
      cases e : L m with
      | true => simp only [if_true, St.at_apply, hhi m h (by omega) e, Option.getD_none, ih]
      | false => simp only [Bool.false_eq_true, if_false, ih]

theorem stAfter_add {x : Loc} {L' : Nat → Bool} (hL : L i = false) (hL' : ∀ m, L' m = (L m || m == i)) (hhi : ∀ m, i < m → m < n → L m = true → (U m).at x = none ∨ (U i).at x = none) :
    ∀ m, m ≤ n → (stAfter U s L' m).at x = if m ≤ i then (stAfter U s L m).at x else ((stAfter U s L m).apply (U i)).at x := by
  intro m
  induction m with
  | zero => intro _; simp [stAfter]
  | succ m ih =>
    intro hm
    have ih := ih (by omega)
    rcases Nat.lt_trichotomy m i with h | h | h
    · rw [if_pos (by omega)]
      rw [if_pos (by omega)] at ih
      have : L' m = L m := by rw [hL']; simp; omega
      simp only [stAfter, this]
      split
      · simp only [St.at_apply, ih]
      · exact ih
    · subst h
      rw [if_neg (by omega)]
      rw [if_pos (Nat.le_refl _)] at ih
      have : L' m = true := by rw [hL']; simp
      simp only [stAfter, this, hL, if_true, Bool.false_eq_true, if_false, St.at_apply, ih]
    · rw [if_neg (by omega)]
      rw [if_neg (by omega)] at ih
      have : L' m = L m := by rw [hL']; simp; omega
      simp only [stAfter, this]
      split
      · rename_i e
        simp only [St.at_apply, ih]
        rcases hhi m h (by omega) e with g | g
        · simp [g]
        · simp [g]
      · exact ih
end

/-- Operation number i, from any state that agrees with the canonical one in what i reads. -/
def GoodOp (C : Ctx) (ops : Array Oper) (Q : Exit → Act → World → Prop) (i : Nat) (R : Loc → Prop) (s : St) (u : Upd) (lo hi : Nat) : Prop :=
  ∀ (v : St) (A : Nat → Prop) (a : Act) (w : World), SimA C v A a w → (∀ x, R x → v.at x = s.at x) → (∀ b, lo ≤ b → b < hi → ¬ A b) →
    wpOp C.P ops Q i (fun a' w' => SimA C (v.apply u) (fun b => A b ∨ lo ≤ b ∧ b < hi) a' w') a w

def doneA (base K : Nat) (L : Nat → Bool) (n : Nat) (b : Nat) : Prop := b < base ∨ ∃ i, i < n ∧ L i = true ∧ base + i * K ≤ b ∧ b < base + (i + 1) * K

theorem region_any {C : Ctx} {ops : Array Oper} {Q : Exit → Act → World → Prop} {U : Nat → Upd} {tr : Trace} {s : St} {base K : Nat}
    (hind : indepB ops.toList tr = true)
    (hU : ∀ i x, i < ops.size → ¬ wrOf ops.toList tr i x → (U i).at x = none)
    (hgood : ∀ i, i < ops.size → GoodOp C ops Q i (rdOf ops.toList tr i) (stAfter U s (fun _ => true) i) (U i) (base + i * K) (base + (i + 1) * K))
    (hend : ∀ a w, SimA C (stAfter U s (fun _ => true) ops.size) (fun b => b < base + ops.size * K) a w → Q .normal a w) :
    ∀ (fuel : Nat) (listed : Array Bool) (a : Act) (w : World), listed.size = ops.size → listed.toList.countP (· == false) = fuel →
      (∀ j o, ops[j]? = some o → listed.getD j false = true → ∀ p ∈ preds o, listed.getD p false = true) →
      SimA C (stAfter U s (fun j => listed.getD j false) ops.size) (doneA base K (fun j => listed.getD j false) ops.size) a w →
      wpAny C.P .any ops Q fuel listed a w := by
  have hback : ∀ j o, ops[j]? = some o → ∀ p ∈ preds o, p < j := fun j o ho p hp => by
    have h := hind
    simp only [indepB, Bool.and_eq_true] at h
    have := backB_spec h.1 j o (by simpa using ho) p hp
    omega
  have hallof : ∀ (listed : Array Bool), listed.size = ops.size → Region.ready .any ops listed = [] → ∀ j, j < ops.size → listed.getD j false = true := by
    intro listed hsz hr j
    induction j using Nat.strongRecOn with
    | _ j ih =>
      intro hj
      cases hl : listed.getD j false with
      | true => rfl
      | false =>
        exfalso
        have : j ∈ Region.ready .any ops listed := by
          rw [mem_ready]
          refine ⟨?_, ops[j], by simp [hj], fun e he hb => ?_⟩
          · simp only [Array.getD, show j < listed.size by omega, dite_true] at hl ⊢; exact hl
          · have hp : e.on ∈ preds ops[j] := by
              simp only [preds, List.mem_filterMap]
              exact ⟨e, by simpa using he, by simp [hb]⟩
            have hlt := hback j _ (by simp [hj]) _ hp
            exact ih _ hlt (by omega)
        rw [hr] at this; cases this
  have hfin : ∀ (listed : Array Bool) (a : Act) (w : World), listed.size = ops.size → Region.ready .any ops listed = [] →
      SimA C (stAfter U s (fun j => listed.getD j false) ops.size) (doneA base K (fun j => listed.getD j false) ops.size) a w → Q .normal a w := by
    intro listed a w hsz hr hS
    have hall := hallof listed hsz hr
    refine hend a w (hS.congr (fun x => ?_) (fun b hb => ?_))
    · have : ∀ m, m ≤ ops.size → stAfter U s (fun j => listed.getD j false) m = stAfter U s (fun _ => true) m := by
        intro m
        induction m with
        | zero => intro _; rfl
        | succ m ih => intro hm; simp only [stAfter, hall m (by omega), if_true, ih (by omega)]
      rw [this _ (Nat.le_refl _)]
    · rcases hb with hb | ⟨i, hi, _, h1, h2⟩
      · omega
      · have : (i + 1) * K ≤ ops.size * K := Nat.mul_le_mul_right _ (by omega)
        omega
  intro fuel
  induction fuel with
  | zero =>
    intro listed a w hsz hc hcl hS
    have hnone : Region.ready .any ops listed = [] := by
      cases hr : Region.ready .any ops listed with
      | nil => rfl
      | cons i rs =>
        have hi : i ∈ Region.ready .any ops listed := by rw [hr]; simp
        obtain ⟨hun, o, ho, _⟩ := mem_ready.1 hi
        have hlt : i < listed.size := by
          rw [hsz]; exact (Array.getElem?_eq_some_iff.1 ho).1
        have : false ∈ listed.toList := by
          simp only [Array.getD, hlt, dite_true] at hun
          rw [List.mem_iff_getElem]
          exact ⟨i, by simpa using hlt, by simpa using hun⟩
        rw [List.countP_eq_zero] at hc
        exact absurd (hc _ this) (by simp)
    exact ⟨hnone, hfin listed a w hsz hnone hS⟩
  | succ fuel ih =>
    intro listed a w hsz hc hcl hS
    refine ⟨fun hr => hfin listed a w hsz hr hS, fun i hi => ?_⟩
    obtain ⟨hun, o, ho, hpre⟩ := mem_ready.1 hi
    have hin : i < ops.size := (Array.getElem?_eq_some_iff.1 ho).1
    have hLi : listed.getD i false = false := by
      simp only [Array.getD, show i < listed.size by omega, dite_true] at hun ⊢; exact hun
    have hdown : ∀ p j, Reach ops.toList p j → listed.getD j false = true → listed.getD p false = true := by
      intro p j hr
      induction hr with
      | one ho hp => intro hl; exact hcl _ _ (by simpa using ho) hl _ hp
      | more ho hp _ ih2 => intro hl; exact ih2 (hcl _ _ (by simpa using ho) hl _ hp)
    have hdowni : ∀ p, Reach ops.toList p i → listed.getD p false = true := by
      have hd : ∀ q ∈ preds o, listed.getD q false = true := by
        intro q hq
        simp only [preds, List.mem_filterMap] at hq
        obtain ⟨e, he, heq⟩ := hq
        split at heq
        · rename_i hb
          injection heq with heq
          subst heq
          exact hpre e (by simpa using he) hb
        · cases heq
      intro p hr
      cases hr with
      | one ho' hp =>
        have : o = _ := Option.some.inj (ho.symm.trans (by simpa using ho'))
        subst this
        exact hd _ hp
      | more ho' hp hr' =>
        have : o = _ := Option.some.inj (ho.symm.trans (by simpa using ho'))
        subst this
        exact hdown _ _ hr' (hd _ hp)
    have hgi := hgood i hin _ _ a w hS (fun x hx => ?_) (fun b hb1 hb2 => ?_)
    · refine wpOp_mono (fun a' w' h => ?_) hgi
      have hset : ∀ m, (listed.setIfInBounds i true).getD m false = (listed.getD m false || m == i) := by
        intro m
        by_cases hm : i = m
        · subst hm
          simp [Array.getD, show i < listed.size by omega]
        · have h2 : (m == i) = false := by simp; omega
          simp only [Array.getD_eq_getD_getElem?, Array.getElem?_setIfInBounds_ne hm, h2, Bool.or_false]
      refine ih _ a' w' (by simpa using hsz) ?_ ?_ (h.congr (fun x => ?_) (fun b hb => ?_))
      · have hlt : i < listed.toList.length := by simpa [hsz] using hin
        have e : (listed.setIfInBounds i true).toList = listed.toList.set i true := by simp
        have hg : listed.toList[i] = false := by
          simp only [Array.getD, show i < listed.size by omega, dite_true] at hLi
          simpa using hLi
        rw [e, List.countP_set hlt, hg, hc]
        simp
      · intro j oj hoj hl p hp
        rw [hset] at hl ⊢
        by_cases hji : j = i
        · subst hji
          have : o = oj := Option.some.inj (ho.symm.trans hoj)
          subst this
          rw [hdowni p (.one (by simpa using ho) hp)]; rfl
        · have h2 : (j == i) = false := by simpa using hji
          rw [h2, Bool.or_false] at hl
          rw [hcl j oj hoj hl p hp]; rfl
      · have := stAfter_add (U := U) (s := s) (L := fun j => listed.getD j false) (L' := fun j => (listed.setIfInBounds i true).getD j false) (i := i) (n := ops.size) (x := x) hLi hset
          (fun m hm hmn hLm => ?_) ops.size (Nat.le_refl _)
        · rw [if_neg (by omega)] at this
          exact this.symm
        · have hnr : ¬ Reach ops.toList i m := fun hr => by rw [hdown i m hr hLm] at hLi; cases hLi
          have hsp := indepB_spec hind hm (by simpa using hmn) hnr x
          by_cases hw : wrOf ops.toList tr i x
          · exact .inl (hU m x hmn (fun h' => hsp.2.1 hw h'))
          · exact .inr (hU i x hin hw)
      · rcases hb with (hb | ⟨m, hm, hl, h1, h2⟩) | hb
        · exact .inl hb
        · exact .inr ⟨m, hm, by show (listed.setIfInBounds i true).getD m false = true; rw [hset, show listed.getD m false = true from hl]; rfl, h1, h2⟩
        · exact .inr ⟨i, hin, by show (listed.setIfInBounds i true).getD i false = true; rw [hset]; simp, hb.1, hb.2⟩
    · have := stAfter_read (U := U) (s := s) (L := fun j => listed.getD j false) (i := i) (n := ops.size) (x := x) hLi (fun m hm hLm => ?_) (fun m hm hmn hLm => ?_) ops.size (Nat.le_refl _)
      · rw [show min ops.size i = i by omega] at this
        exact this
      · have hnr : ¬ Reach ops.toList m i := fun hr => by have := hdowni m hr; rw [show listed.getD m false = false from hLm] at this; cases this
        have hsp := indepB_spec hind hm (by simpa using hin) hnr x
        exact hU m x (by omega) (fun h' => hsp.1 h' hx)
      · have hnr : ¬ Reach ops.toList i m := fun hr => by rw [hdown i m hr hLm] at hLi; cases hLi
        have hsp := indepB_spec hind hm (by simpa using hmn) hnr x
        exact hU m x hmn (fun h' => hsp.2.2 h' hx)
    · rintro (hb | ⟨m, hm, hl, h1, h2⟩)
      · have : base ≤ base + i * K := Nat.le_add_right _ _
        omega
      · rcases Nat.lt_trichotomy m i with h | h | h
        · have : (m + 1) * K ≤ i * K := Nat.mul_le_mul_right _ (by omega)
          omega
        · subst h; rw [show listed.getD m false = true from hl] at hLi; cases hLi
        · have : (i + 1) * K ≤ m * K := Nat.mul_le_mul_right _ (by omega)
          omega

end Go.Abs

namespace Go.Abs
open Go

/-! ### Types -/
inductive Kind where
  | int (k : IntKind)
  | bool
  | slice (e : Nat)
  | struct (offs : List (Nat × Nat))
  | array (n e : Nat)
  | other
  deriving DecidableEq

structure TI where
  kind : Kind
  size : Nat
  bytes : Nat
  zero : List D

abbrev Tab := Nat → Option TI

def zval : D → Value
  | .int k n => .int k n
  | .bool b => .bool b
  | .lst _ _ => .slice none 0 0

def zeroD : D → Bool
  | .int .. | .bool _ => true
  | .lst n cells => n == 0 && cells.isEmpty

/-- The table tells of the program's types. -/
structure TabOk (P : Program) (T : Tab) : Prop where
  info : ∀ t ti, T t = some ti → ∃ i z, P.info? t = some i ∧ i.size = ti.size ∧ i.bytes = ti.bytes ∧ i.zero = some z ∧ z.cells = (ti.zero.map zval).toArray ∧ ti.zero.length = ti.size ∧ ti.zero.all zeroD = true ∧ 0 < ti.size ∧ 0 < ti.bytes
  desc : ∀ t ti, T t = some ti → match ti.kind with
    | .int k => P.underlying t = some (.int k)
    | .bool => P.underlying t = some .bool
    | .slice e => P.underlying t = some (.slice e)
    | .struct offs => ∃ fs, P.underlying t = some (.struct fs) ∧ fs.size = offs.length ∧ ∀ (j o sz : Nat), offs[j]? = some (o, sz) → ∃ (fd : Field) (i : TypeInfo), fs[j]? = some fd ∧ fd.offset = o ∧ P.info? fd.type = some i ∧ i.size = sz ∧ 0 < sz
    | .array n e => P.underlying t = some (.array n e)
    | .other => True

def Tab.agg (T : Tab) (t : Nat) : Bool := match T t with
  | some ti => (match ti.kind with | .struct _ | .array .. => true | _ => false)
  | none => false
def Tab.size (T : Tab) (t : Nat) : Nat := match T t with | some ti => ti.size | none => 0

/-- The kinds whose values take one cell. -/
def Tab.flat (T : Tab) (t : Nat) : Bool := match T t with
  | some ti => (match ti.kind with | .int _ | .bool | .slice _ => ti.size == 1 | _ => false)
  | none => false

/-! ### What an operation does -/
def ofConst : Value → V
  | .int k n => .d (.int k n)
  | .bool b => .d (.bool b)
  | .slice none 0 0 => .nil
  | .string s => .str s
  | _ => .junk

def opv (g : Nat → V) : Operand → V
  | .tmp t => g t
  | .const v => ofConst v
  | .func f => .fn f []
  | .global _ => .junk

/-- A value as cells; a slice of the call's own is frozen by it. -/
def frz (m : Nat → Option Blk) (v : V) (k : List Nat → List (Nat × Option Blk) → List D → Prop) : Prop :=
  match v with
  | .d x => k [] [] [x]
  | .agg cs => k [] [] cs
  | .nil => k [] [] [.lst 0 []]
  | .own b off n sz => match m b with
    | some blk => k [b] [(b, some ⟨blk.cells, false⟩)] [.lst n ((blk.cells.drop off).take (n * sz))]
    | none => False
  | _ => False

/-- An argument of a call: frozen, or lent. -/
def frzArg (m : Nat → Option Blk) (v : V) (k : List Nat → List (Nat × Option Blk) → V → Prop) : Prop :=
  match v with
  | .own b off n sz => match m b with
    | some blk => k [b] [(b, some ⟨blk.cells, false⟩)] (.d (.lst n ((blk.cells.drop off).take (n * sz))))
    | none => False
  | .nil => k [] [] (.d (.lst 0 []))
  | .d x => k [] [] (.d x)
  | .agg cs => k [] [] (.agg cs)
  | .fn f caps => k [] [] (.fn f caps)
  | .ptr b off => k [] [] (.ptr b off)
  | _ => False

def frzArgs (m : Nat → Option Blk) : List V → (List Nat → List (Nat × Option Blk) → List V → Prop) → Prop
  | [], k => k [] [] []
  | v :: vs, k => frzArg m v fun R W x => frzArgs m vs fun R' W' xs => k (R ++ R') (W ++ W') (x :: xs)

def lentOf (m : Nat → Option Blk) : List V → (List (Nat × Blk) → Prop) → Prop
  | [], k => k []
  | .ptr b _ :: vs, k => match m b with
    | some blk => blk.live = true ∧ lentOf m vs fun l => k ((b, blk) :: l)
    | none => False
  | _ :: vs, k => lentOf m vs k

/-- The blocks that a call is lent whose arguments stay as they are. -/
def lendOf (m : Nat → Option Blk) : List V → (List (Nat × Blk) → Prop) → Prop
  | [], k => k []
  | .ptr b _ :: vs, k => match m b with
    | some blk => blk.live = true ∧ lendOf m vs fun l => k ((b, blk) :: l)
    | none => False
  | .own b _ _ _ :: vs, k => match m b with
    | some blk => blk.live = true ∧ lendOf m vs fun l => k ((b, blk) :: l)
    | none => False
  | _ :: vs, k => lendOf m vs k

mutual
/-- The blocks that a value speaks of. -/
def V.refs : V → List Nat
  | .own b .. => [b]
  | .ptr b _ => [b]
  | .fn _ caps => caps.map (·.1)
  | .tup vs => V.refsL vs
  | _ => []
def V.refsL : List V → List Nat
  | [] => []
  | x :: xs => x.refs ++ V.refsL xs
end

/-- Every function that is called has a body, and is no special one. -/
def Callable (P : Program) (f : Nat) : Prop := ∃ fn, P.funcs[f]? = some fn ∧ (fn.name == "runtime.NumGoroutine") = false ∧ fn.body.isNone = false

/-- What a call comes to: arguments, the blocks lent to it, its result, what it leaves of them. -/
structure CallOk (w : World) (ok : Nat → Prop) (β : Nat → Option Nat) (lent : List (Nat × Blk)) (r : V) (out : List (Nat × Blk)) (v : Value) (w' : World) (ok' : Nat → Prop) (β' : Nat → Option Nat) : Prop where
  os : w'.os = w.os
  tape : w'.tape = w.tape
  output : w'.output = w.output
  size : w.heap.size ≤ w'.heap.size
  keep : ∀ k, k < w.heap.size → (∀ b blk, (b, blk) ∈ lent → β b ≠ some k) → w'.heap[k]? = w.heap[k]?
  shape : Shape w.heap w'.heap
  lo : ∀ k, ok k → ok' k
  hi : ∀ k, ok' k → ok k ∨ (∃ b blk, (b, blk) ∈ lent ∧ β b = some k) ∨ w.heap.size ≤ k
  lt : ∀ k, ok' k → k < w'.heap.size
  res : RepV w'.heap ok' β' r v
  same : ∀ b blk, (b, blk) ∈ lent → β' b = β b
  made : ∀ b blk, (b, blk) ∈ out → (β' b = none ∧ blk.cells = []) ∨ ∃ B, β' b = some B ∧ BlkAt w'.heap ok' B blk ∧ ((∃ b0 k0, (b0, k0) ∈ lent ∧ β b0 = some B) ∨ w.heap.size ≤ B)
  inj : ∀ b b' k k' B, (b, k) ∈ out → (b', k') ∈ out → β' b = some B → β' b' = some B → b = b'

/-- THE CONTRACT OF A FUNCTION. -/
def Fn (P : Program) (f : Nat) (args : List V) (lent : List (Nat × Blk)) (r : V) (out : List (Nat × Blk)) : Prop :=
  Callable P f ∧ ∀ (w : World) (ok : Nat → Prop) (β : Nat → Option Nat) (vs : Array Value),
    (∀ k, ok k → k < w.heap.size) → vs.size = args.length → RepVs w.heap ok β args vs 0 →
    (∀ b blk, (b, blk) ∈ lent → blk.live = true ∧ ((β b = none ∧ blk.cells = []) ∨ ∃ B, β b = some B ∧ BlkAt w.heap ok B blk)) →
    (∀ b b' k k' B, (b, k) ∈ lent → (b', k') ∈ lent → β b = some B → β b' = some B → b = b') →
    Calls P f vs w fun e w' => ∃ v ok' β', e = .returned v ∧ CallOk w ok β lent r out v w' ok' β'

def zeros (n : Nat) (z : List D) : List D := (List.replicate n z).flatten

def setCells : List D → Nat → List D → List D
  | cells, _, [] => cells
  | cells, off, x :: xs => setCells (cells.set off x) (off + 1) xs

/-- The cells of a slice that is read. -/
def slcells (m : Nat → Option Blk) (v : V) (sz : Nat) (k : List Nat → Nat → List D → Prop) : Prop :=
  match v with
  | .d (.lst n cells) => cells.length = n * sz ∧ k [] n cells
  | .nil => k [] 0 []
  | .own b off n sz' => match m b with
    | some blk => (sz' = sz ∧ off + n * sz ≤ blk.cells.length) ∧ k [b] n ((blk.cells.drop off).take (n * sz))
    | none => False
  | _ => False

def evalBin (T : Tab) (op : BinOp) (t : Nat) (x y : V) (k : V → Prop) : Prop :=
  match op, x, y with
  | .shl, .d (.int kk a), .d (.int _ b) => 0 ≤ b ∧ k (.d (.int kk (kk.wrap (a * 2 ^ (min b.toNat kk.bits)))))
  | .shr, .d (.int kk a), .d (.int _ b) => 0 ≤ b ∧ k (.d (.int kk (a.fdiv (2 ^ (min b.toNat kk.bits)))))
  | .add, .d (.int kk a), .d (.int k2 b) => kk = k2 ∧ k (.d (.int kk (kk.wrap (a + b))))
  | .sub, .d (.int kk a), .d (.int k2 b) => kk = k2 ∧ k (.d (.int kk (kk.wrap (a - b))))
  | .mul, .d (.int kk a), .d (.int k2 b) => kk = k2 ∧ k (.d (.int kk (kk.wrap (a * b))))
  | .quo, .d (.int kk a), .d (.int k2 b) => (kk = k2 ∧ b ≠ 0) ∧ k (.d (.int kk (kk.wrap (a.tdiv b))))
  | .rem, .d (.int kk a), .d (.int k2 b) => (kk = k2 ∧ b ≠ 0) ∧ k (.d (.int kk (a.tmod b)))
  | .and, .d (.int kk a), .d (.int k2 b) => kk = k2 ∧ k (.d (.int kk (kk.wrap (BitVec.ofInt kk.bits a &&& BitVec.ofInt kk.bits b).toNat)))
  | .or, .d (.int kk a), .d (.int k2 b) => kk = k2 ∧ k (.d (.int kk (kk.wrap (BitVec.ofInt kk.bits a ||| BitVec.ofInt kk.bits b).toNat)))
  | .xor, .d (.int kk a), .d (.int k2 b) => kk = k2 ∧ k (.d (.int kk (kk.wrap (BitVec.ofInt kk.bits a ^^^ BitVec.ofInt kk.bits b).toNat)))
  | .andNot, .d (.int kk a), .d (.int k2 b) => kk = k2 ∧ k (.d (.int kk (kk.wrap (BitVec.ofInt kk.bits a &&& ~~~ BitVec.ofInt kk.bits b).toNat)))
  | .eql, .d (.int kk a), .d (.int k2 b) => kk = k2 ∧ k (.d (.bool (a == b)))
  | .neq, .d (.int kk a), .d (.int k2 b) => kk = k2 ∧ k (.d (.bool (a != b)))
  | .lss, .d (.int kk a), .d (.int k2 b) => kk = k2 ∧ k (.d (.bool (decide (a < b))))
  | .leq, .d (.int kk a), .d (.int k2 b) => kk = k2 ∧ k (.d (.bool (decide (a ≤ b))))
  | .gtr, .d (.int kk a), .d (.int k2 b) => kk = k2 ∧ k (.d (.bool (decide (a > b))))
  | .geq, .d (.int kk a), .d (.int k2 b) => kk = k2 ∧ k (.d (.bool (decide (a ≥ b))))
  | .eql, .d (.bool a), .d (.bool b) => (T t).map (·.kind) = some .bool ∧ k (.d (.bool (a == b)))
  | .neq, .d (.bool a), .d (.bool b) => (T t).map (·.kind) = some .bool ∧ k (.d (.bool (!(a == b))))
  | _, _, _ => False

def evalUn (op : UnOp) (x : V) (k : V → Prop) : Prop :=
  match op, x with
  | .neg, .d (.int kk a) => k (.d (.int kk (kk.wrap (0 - a))))
  | .xor, .d (.int kk a) => k (.d (.int kk (kk.wrap (BitVec.ofInt kk.bits (if kk.signed then -1 else kk.max) ^^^ BitVec.ofInt kk.bits a).toNat)))
  | .not, .d (.bool b) => k (.d (.bool (!b)))
  | _, _ => False

/-- The parts of a literal, each laid at its place. -/
def fillD (m : Nat → Option Blk) (g : Nat → V) (place : Nat → Option (Nat × Nat)) : List (Nat × Operand) → List D → (List Nat → List (Nat × Option Blk) → List D → Prop) → Prop
  | [], cells, k => k [] [] cells
  | (i, x) :: rest, cells, k => match place i with
    | none => False
    | some (off, size) => frz m (opv g x) fun R W xs => (xs.length = size ∧ off + size ≤ cells.length) ∧
        fillD m g place rest (setCells cells off xs) fun R' W' cs => k (R ++ R') (W ++ W') cs

def evalCut (sz : Nat) (x : V) (lo hi : Option V) (k : List Nat → V → Prop) : Prop :=
  match x, lo, hi with
  | .d (.lst n cells), none, some (.d (.int _ h)) => (0 ≤ h ∧ h ≤ n) ∧ k [] (.d (.lst h.toNat (cells.take (h.toNat * sz))))
  | .d (.lst n cells), some (.d (.int _ l)), none => (cells.length = n * sz ∧ 0 ≤ l ∧ l ≤ n) ∧ k [] (.d (.lst (n - l.toNat) (cells.drop (l.toNat * sz))))
  | .d (.lst n cells), some (.d (.int _ l)), some (.d (.int _ h)) => (cells.length = n * sz ∧ 0 ≤ l ∧ l ≤ h ∧ h ≤ n) ∧ k [] (.d (.lst (h.toNat - l.toNat) ((cells.drop (l.toNat * sz)).take ((h.toNat - l.toNat) * sz))))
  | .own b off n sz', none, some (.d (.int _ h)) => (sz' = sz ∧ 0 ≤ h ∧ h ≤ n) ∧ k [] (.own b off h.toNat sz)
  | .own b off n sz', some (.d (.int _ l)), none => (sz' = sz ∧ 0 ≤ l ∧ l < n) ∧ k [] (.own b (off + l.toNat * sz) (n - l.toNat) sz)
  | .own b off n sz', some (.d (.int _ l)), some (.d (.int _ h)) => (sz' = sz ∧ 0 ≤ l ∧ l < n ∧ l ≤ h ∧ h ≤ n) ∧ k [] (.own b (off + l.toNat * sz) (h.toNat - l.toNat) sz)
  | _, _, _ => False

def evalBuiltin (T : Tab) (f : Nat) (m : Nat → Option Blk) (b : Builtin) (types : List Nat) (args : List V) (k : List Nat → List (Nat × Option Blk) → V → Prop) : Prop :=
  match b, types, args with
  | .len, [t], [x] => (∃ ti e, T t = some ti ∧ ti.kind = .slice e) ∧ (match x with
    | .d (.lst n _) => k [] [] (.d (.int .i64 n))
    | .own _ _ n _ => k [] [] (.d (.int .i64 n))
    | .nil => k [] [] (.d (.int .i64 0))
    | _ => False)
  | .append, [t, t2], [x, y] => ∃ ti e te, (t = t2 ∧ T t = some ti ∧ ti.kind = .slice e ∧ T e = some te) ∧ (match x with
    | .nil => slcells m y te.size fun R n cells => n * te.bytes ≤ 2 ^ 47 ∧ k R [(f, some ⟨cells, true⟩)] (.own f 0 n te.size)
    | .own b 0 n0 sz => match m b with
      | some ⟨cs, true⟩ => slcells m y te.size fun R n cells => (sz = te.size ∧ b ∉ R ∧ cs.length = n0 * te.size ∧ (n0 + n) * te.bytes ≤ 2 ^ 47) ∧
          k (b :: R) [(b, none), (f, some ⟨cs ++ cells, true⟩)] (.own f 0 (n0 + n) te.size)
      | _ => False
    | _ => False)
  | .copy, [t, _], [x, y] => ∃ ti e te, (T t = some ti ∧ ti.kind = .slice e ∧ T e = some te) ∧ (match x with
    | .own b off n0 sz => match m b with
      | some ⟨cs, true⟩ => slcells m y te.size fun R n cells => (sz = te.size ∧ b ∉ R ∧ off + n0 * te.size ≤ cs.length) ∧
          k (b :: R) [(b, some ⟨setCells cs off (cells.take (min n n0 * te.size)), true⟩)] (.d (.int .i64 (min n n0 : Nat)))
      | _ => False
    | _ => False)
  | .max, _, [.d (.int k1 x), .d (.int _ y)] => k [] [] (.d (.int k1 (if y > x then y else x)))
  | .min, _, [.d (.int k1 x), .d (.int _ y)] => k [] [] (.d (.int k1 (if y < x then y else x)))
  | _, _, _ => False

/-- WHAT ONE OPERATION DOES: it reads the blocks R, writes W, and leaves a value. f: the number of the block that it may make. -/
def evalOp (P : Program) (T : Tab) (f : Nat) (g : Nat → V) (m : Nat → Option Blk) (op : Op) (k : List Nat → List (Nat × Option Blk) → V → Prop) : Prop :=
  match op with
  | .move x | .assign x => k [] [] (opv g x)
  | .pick c a b => match opv g c with
    | .d (.bool t) => if t = true then k [] [] (opv g a) else k [] [] (opv g b)
    | _ => False
  | .alloc t => match T t with
    | some ti => k [] [(f, some ⟨ti.zero, true⟩)] (.ptr f 0)
    | none => False
  | .box _ x => frz m (opv g x) fun R W cs => k R (W ++ [(f, some ⟨cs, true⟩)]) (.ptr f 0)
  | .build t parts => match T t with
    | some ti => match ti.kind with
      | .struct offs => fillD m g (offs[·]?) parts.toList ti.zero fun R W cs => k R W (.agg cs)
      | .array _ e => match T e with
        | some te => fillD m g (fun i => some (i * te.size, te.size)) parts.toList ti.zero fun R W cs => k R W (.agg cs)
        | none => False
      | _ => False
    | none => False
  | .buildSlice t n parts => match T t with
    | some ti => match ti.kind with
      | .slice e => match T e with
        | some te => n * te.size ≤ 2 ^ 24 ∧ fillD m g (fun i => some (i * te.size, te.size)) parts.toList (zeros n te.zero) fun R W cs => k R W (.d (.lst n cs))
        | none => False
      | _ => False
    | none => False
  | .load t a => match opv g a with
    | .ptr b off => match m b with
      | some blk => if T.agg t = true then off + T.size t ≤ blk.cells.length ∧ k [b] [] (.agg ((blk.cells.drop off).take (T.size t)))
        else T.flat t = true ∧ ∃ d, blk.cells[off]? = some d ∧ k [b] [] (.d d)
      | none => False
    | .fptr cells => if T.agg t = true then T.size t ≤ cells.length ∧ k [] [] (.agg (cells.take (T.size t)))
        else T.flat t = true ∧ ∃ d, cells[0]? = some d ∧ k [] [] (.d d)
    | _ => False
  | .store t a x => match opv g a with
    | .ptr b off => frz m (opv g x) fun R W xs => match m b with
      | some ⟨cells, true⟩ => ((T t).isSome = true ∧ xs.length = T.size t ∧ off + xs.length ≤ cells.length ∧ b ∉ R) ∧ k (b :: R) (W ++ [(b, some ⟨setCells cells off xs, true⟩)]) .junk
      | _ => False
    | _ => False
  | .nilCheck x => match opv g x with
    | .ptr b off => k [] [] (.ptr b off)
    | .fptr cells => k [] [] (.fptr cells)
    | .fn fid caps => k [] [] (.fn fid caps)
    | _ => False
  | .binOp op t x y _ => evalBin T op t (opv g x) (opv g y) fun v => k [] [] v
  | .unOp op _ x => evalUn op (opv g x) fun v => k [] [] v
  | .convert src dst x => match opv g x, T src, T dst with
    | .d (.int _ n), some si, some ti => (match si.kind, ti.kind with | .int _, .int kk => k [] [] (.d (.int kk (kk.wrap n))) | _, _ => False)
    | _, _, _ => False
  | .makeFunc (.func fid) first caps => first.size = 0 ∧ (match caps.toList.map (opv g) with
    | [] => k [] [] (.fn fid [])
    | [.ptr b off] => k [] [] (.fn fid [(b, off)])
    | [.ptr b off, .ptr b2 off2] => k [] [] (.fn fid [(b, off), (b2, off2)])
    | _ => False)
  | .makeSlice t l c => match opv g l, opv g c, T t with
    | .d (.int _ n), .d (.int _ n2), some ti => match ti.kind with
      | .slice e => match T e with
        | some te => (n = n2 ∧ 0 ≤ n ∧ n * te.bytes ≤ 2 ^ 47) ∧ k [] [(f, some ⟨zeros n.toNat te.zero, true⟩)] (.own f 0 n.toNat te.size)
        | none => False
      | _ => False
    | _, _, _ => False
  | .slice t x lo hi none => match T t with
    | some ti => match ti.kind with
      | .slice e => match T e with
        | some te => evalCut te.size (opv g x) (lo.map (opv g)) (hi.map (opv g)) fun R v => k R [] v
        | none => False
      | _ => False
    | none => False
  | .fieldAddr s x j => match T s with
    | some ti => match ti.kind with
      | .struct offs => ∃ o sz, offs[j]? = some (o, sz) ∧ (match opv g x with
        | .ptr b off => k [] [] (.ptr b (off + o))
        | .fptr cells => k [] [] (.fptr (cells.drop o))
        | _ => False)
      | _ => False
    | none => False
  | .indexAddr t x ix => match T t with
    | some ti => match ti.kind with
      | .slice e => match T e with
        | some te => (match opv g x, opv g ix with
          | .d (.lst n cells), .d (.int _ i) => (0 ≤ i ∧ i < n ∧ (i.toNat + 1) * te.size ≤ cells.length) ∧ k [] [] (.fptr (cells.drop (i.toNat * te.size)))
          | .own b off n sz, .d (.int _ i) => (sz = te.size ∧ 0 ≤ i ∧ i < n) ∧ k [] [] (.ptr b (off + i.toNat * te.size))
          | _, _ => False)
        | none => False
      | .array n e => match T e with
        | some te => (match opv g x, opv g ix with
          | .ptr b off, .d (.int _ i) => (0 ≤ i ∧ i < n) ∧ k [] [] (.ptr b (off + i.toNat * te.size))
          | _, _ => False)
        | none => False
      | _ => False
    | none => False
  | .index t x ix => match opv g x, opv g ix, (T t).isSome with
    | .str s, .d (.int _ i), _ => ∃ b, P.underlying t = some .string ∧ 0 ≤ i ∧ s[i.toNat]? = some b ∧ k [] [] (.d (.int .u8 b.toNat))
    | _, _, _ => False
  | .extract x i => match opv g x with
    | .tup vs => ∃ v, vs[i]? = some v ∧ k [] [] v
    | _ => False
  | .call c => match c.callee with
    | .builtin b => evalBuiltin T f m b c.argTypes.toList (c.args.toList.map (opv g)) k
    | .value fo => match opv g fo with
      | .fn fid caps => (frzArgs m (c.args.toList.map (opv g)) fun R W vs => lentOf m (vs ++ caps.map fun p => .ptr p.1 p.2) fun lent =>
          ∃ r out, Fn P fid (vs ++ caps.map fun p => .ptr p.1 p.2) lent r out ∧ ((∀ p ∈ out, p.1 = f ∨ p.1 ∈ lent.map (·.1)) ∧ (∀ p ∈ lent, p.1 ∉ R) ∧ (∀ b ∈ r.refs, b = f ∨ b ∈ lent.map (·.1))) ∧
            k (R ++ lent.map (·.1)) (W ++ lent.map (fun p => (p.1, none)) ++ out.map (fun p => (p.1, some p.2))) r) ∨
          lendOf m (c.args.toList.map (opv g) ++ caps.map fun p => .ptr p.1 p.2) fun lent =>
          ∃ r out, Fn P fid (c.args.toList.map (opv g) ++ caps.map fun p => .ptr p.1 p.2) lent r out ∧ ((∀ p ∈ out, p.1 = f ∨ p.1 ∈ lent.map (·.1)) ∧ (∀ b ∈ r.refs, b = f ∨ b ∈ lent.map (·.1))) ∧
            k (lent.map (·.1)) (lent.map (fun p => (p.1, none)) ++ out.map (fun p => (p.1, some p.2))) r
      | _ => False
    | _ => False
  | _ => False

end Go.Abs

set_option linter.unusedVariables false
set_option linter.unusedSimpArgs false
namespace Go.Abs
open Go

/-! ### Runs of the small steps -/
theorem add_mk (B o n : Nat) : Addr.add ⟨B, o, none⟩ n = ⟨B, o + n, none⟩ := by
  unfold Addr.add
  split
  · rename_i h; subst h; rfl
  · rfl

theorem cell_at {w : World} {B i : Nat} {u : Value} (h : At w.heap B i u) : w.cell? ⟨B, i, none⟩ = some u := by
  obtain ⟨arr, T, fr, h1, h2⟩ := h
  simp [World.cell?, h1, h2]

theorem run_load_at {P : Program} {w : World} {B i : Nat} {u : Value} (h : At w.heap B i u) : (load ⟨B, i, none⟩).run P w = .ok u w := by
  simp [load, Sem.run, cell_at h]

theorem run_bind {α β : Type} (P : Program) (s : Sem α) (f : α → Sem β) (w : World) : (s >>= f).run P w = match s.run P w with | .ok a w' => (f a).run P w' | .halt h w' => .halt h w' := by
  simp [go_sem]
  rfl

theorem run_loadCellsFrom {P : Program} {w : World} {B o : Nat} : ∀ (n i : Nat) (arr acc : Array Value), (∀ j, j < n → ∃ u, arr[i + j]? = some u ∧ At w.heap B (o + (i + j)) u) →
    (loadCellsFrom ⟨B, o, none⟩ i n acc).run P w = .ok (acc ++ arr.extract i (i + n)) w := by
  intro n
  induction n with
  | zero =>
    intro i arr acc _
    simp [loadCellsFrom, go_sem]
    omega
  | succ n ih =>
    intro i arr acc h
    obtain ⟨u, e, hu⟩ := h 0 (by omega)
    simp only [loadCellsFrom, add_mk]
    rw [Nat.add_zero] at hu
    rw [run_bind, run_load_at hu]
    simp only
    rw [ih (i + 1) arr (acc.push u) (fun j hj => by have := h (j + 1) (by omega); rw [show i + 1 + j = i + (j + 1) by omega]; exact this)]
    congr 1
    have hi : i < arr.size := by
      rcases Nat.lt_or_ge i arr.size with h' | h'
      · exact h'
      · rw [show i + 0 = i by omega, Array.getElem?_eq_none h'] at e; cases e
    have e' : arr[i] = u := by simpa [Array.getElem?_eq_getElem hi] using e
    apply Array.ext'
    simp only [Array.toList_append, Array.toList_push, Array.toList_extract, List.append_assoc]
    congr 1
    rw [List.extract_eq_take_drop, List.extract_eq_take_drop, show i + (n + 1) - i = n + 1 by omega, show i + 1 + n - (i + 1) = n by omega]
    rw [List.drop_eq_getElem_cons (i := i) (by simpa using hi)]
    simp [e']

theorem run_loadCells {P : Program} {w : World} {B o n : Nat} {arr : Array Value} (hn : arr.size = n) (h : ∀ j, j < n → ∃ u, arr[j]? = some u ∧ At w.heap B (o + j) u) :
    (loadCells ⟨B, o, none⟩ n).run P w = .ok arr w := by
  unfold loadCells
  rw [run_loadCellsFrom n 0 arr #[] (fun j hj => by simpa using h j hj)]
  congr 1
  subst hn
  simp

def plainV (v : Value) : Prop := (∀ cs, v ≠ .agg cs) ∧ ∀ cs, v ≠ .tuple cs

theorem RepD.plain {H : Array Obj} {ok : Nat → Prop} : ∀ {d : D} {v : Value}, RepD H ok d v → plainV v
  | .int k n, v, h => by simp only [RepD] at h; subst h; constructor <;> intro _ e <;> cases e
  | .bool b, v, h => by simp only [RepD] at h; subst h; constructor <;> intro _ e <;> cases e
  | .lst n cells, v, h => by simp only [RepD] at h; obtain ⟨A, c, rfl, _⟩ := h; constructor <;> intro _ e <;> cases e

theorem run_store_at {P : Program} {w : World} {B i : Nat} {u : Value} {arr : Array Value} {T : TypeId} (h : w.heap[B]? = some (.cells arr T (0, 0))) (hi : i < arr.size) (hu : plainV u) :
    (store ⟨B, i, none⟩ u).run P w = .ok () (w.setCell ⟨B, i, none⟩ u) := by
  have hc : w.cell? ⟨B, i, none⟩ = some arr[i] := cell_at ⟨arr, T, _, h, by simp [hi]⟩
  have hf : w.frozen? ⟨B, i, none⟩ = false := by simp [World.frozen?, h]
  cases u <;> first | (exact absurd rfl (hu.1 _)) | (exact absurd rfl (hu.2 _)) | simp [store, Sem.run, hc, hf]

/-- Cells written one behind the other. -/
def setVals : Array Value → Nat → List Value → Array Value
  | arr, _, [] => arr
  | arr, o, v :: vs => setVals (arr.setIfInBounds o v) (o + 1) vs

theorem setVals_size : ∀ (vs : List Value) (arr : Array Value) (o : Nat), (setVals arr o vs).size = arr.size
  | [], arr, o => rfl
  | v :: vs, arr, o => by simp [setVals, setVals_size vs]

/-- The world with one row of cells turned. -/
def World.row (w : World) (B : Nat) (arr : Array Value) (T : TypeId) : World := { w with heap := w.heap.setIfInBounds B (.cells arr T (0, 0)) }

theorem setCell_row {w : World} {B i : Nat} {u : Value} {arr : Array Value} {T : TypeId} (h : w.heap[B]? = some (.cells arr T (0, 0))) :
    w.setCell ⟨B, i, none⟩ u = World.row w B (arr.setIfInBounds i u) T := by
  unfold World.setCell World.row
  congr 1
  apply Array.ext'
  simp only [Array.toList_modify, Array.toList_setIfInBounds]
  have h' : w.heap.toList[B]? = some (.cells arr T (0, 0)) := by simpa using h
  apply List.ext_getElem?
  intro j
  simp only [List.getElem?_modify, List.getElem?_set]
  by_cases e : B = j
  · subst e
    obtain ⟨hl, _⟩ := List.getElem?_eq_some_iff.1 h'
    simp [h']
    simpa using hl
  · simp [e]

theorem row_row {w : World} {B : Nat} {arr arr' : Array Value} {T T' : TypeId} : World.row (World.row w B arr T) B arr' T' = World.row w B arr' T' := by
  simp [World.row]

theorem row_heap_same {w : World} {B : Nat} {arr : Array Value} {T : TypeId} (h : B < w.heap.size) : (World.row w B arr T).heap[B]? = some (.cells arr T (0, 0)) := by
  simp [World.row, h]

theorem row_heap_ne {w : World} {B k : Nat} {arr : Array Value} {T : TypeId} (h : k ≠ B) : (World.row w B arr T).heap[k]? = w.heap[k]? := by
  simp [World.row, Array.getElem?_setIfInBounds_ne (Ne.symm h)]

theorem run_storeCells {P : Program} {B o : Nat} {T : TypeId} : ∀ (vs : List Value) (w : World) (i : Nat) (arr : Array Value), w.heap[B]? = some (.cells arr T (0, 0)) → o + i + vs.length ≤ arr.size →
    (∀ v ∈ vs, plainV v) → vs ≠ [] → (storeCells ⟨B, o, none⟩ vs i).run P w = .ok () (World.row w B (setVals arr (o + i) vs) T)
  | [], _, _, _, _, _, _, h => absurd rfl h
  | v :: vs, w, i, arr, h, hl, hp, _ => by
    have hB : B < w.heap.size := (Array.getElem?_eq_some_iff.1 h).1
    simp only [storeCells, add_mk]
    rw [run_bind, run_store_at h (by simp at hl; omega) (hp v (by simp))]
    simp only [setCell_row h, setVals]
    by_cases hv : vs = []
    · subst hv; simp [storeCells, go_sem, setVals]
    · rw [run_storeCells vs _ (i + 1) _ (row_heap_same hB) (by simp at hl ⊢; omega) (fun x hx => hp x (by simp [hx])) hv, row_row]
      rfl

end Go.Abs

set_option linter.unusedVariables false
set_option linter.unusedSimpArgs false
namespace Go.Abs
open Go

theorem RepL.toC {H : Array Obj} {ok : Nat → Prop} {B o : Nat} {ds : List D} (h : RepL H ok (some ⟨B, o, none⟩) 0 ds) :
    ∀ i d, ds[i]? = some d → ok B ∧ ∃ u, At H B (o + i) u ∧ RepD H ok d u := fun i d hd => by
  obtain ⟨B', o', u, e, k, g, r⟩ := RepL_iff.1 h i d hd
  cases e
  exact ⟨k, u, by simpa using g, r⟩

theorem RepL.ofC {H : Array Obj} {ok : Nat → Prop} {B o : Nat} {ds : List D} (h : ∀ i d, ds[i]? = some d → ok B ∧ ∃ u, At H B (o + i) u ∧ RepD H ok d u) :
    RepL H ok (some ⟨B, o, none⟩) 0 ds := RepL_iff.2 fun i d hd => by
  obtain ⟨k, u, g, r⟩ := h i d hd
  exact ⟨B, o, u, rfl, k, by simpa using g, r⟩

/-! ### The state behind a step -/
theorem put_getD {a : Act} {t : Nat} {v : Value} {j : Nat} (h : t < a.tmps.size) : (a.put (some t) v).tmps.getD j undef = if j = t then v else a.tmps.getD j undef := by
  simp only [Act.put, Array.getD_eq_getD_getElem?]
  by_cases e : j = t
  · subst e; simp [h]
  · simp [Array.getElem?_setIfInBounds_ne (Ne.symm e), e]

theorem wval_mem {W : List (Nat × Option Blk)} {b : Nat} {x : Option Blk} (h : wval W b = some x) : (b, x) ∈ W := by
  induction W with
  | nil => cases h
  | cons p W ih =>
    obtain ⟨k, v⟩ := p
    simp only [wval] at h
    split at h
    · rename_i y hy
      cases h
      exact List.mem_cons_of_mem _ (ih hy)
    · split at h
      · rename_i e; cases h; subst e; simp
      · cases h

theorem SimAt.step {C : Ctx} {s : St} {A : Nat → Prop} {a : Act} {w w' : World} {ok ok' : Nat → Prop} {β β' : Nat → Option Nat} {W : List (Nat × Option Blk)} {dst : Option Nat} {x : V} {v : Value} {f : Nat}
    (h : SimAt C s.at A a w ok β) (hA : ¬ A f) (hd : dst.getD 0 < a.tmps.size) (hf : Frame C w' ok') (hk : Keeps w.heap w'.heap ok ok') (hs : Shape w.heap w'.heap)
    (hb : ∀ b B, β b = some B → β' b = some B) (hu : ∀ b B, β' b = some B → β b = some B ∨ b = f) (hx : dst ≠ none → RepV w'.heap ok' β' x v)
    (hw : ∀ b k, wval W b = some (some k) → (A b ∨ b = f) ∧ ((β' b = none ∧ k.cells = []) ∨ ∃ B, β' b = some B ∧ BlkAt w'.heap ok' B k ∧ (C.lent B ∨ C.w0.heap.size ≤ B)))
    (hn : ∀ b k B, wval W b = none → s.blk b = some k → β b = some B → BlkAt w.heap ok B k → BlkAt w'.heap ok' B k)
    (hfr : s.blk f = none)
    (hi : ∀ b b' B, (wval W b = none → s.blk b ≠ none) → wval W b ≠ some none → (wval W b' = none → s.blk b' ≠ none) → wval W b' ≠ some none → β' b = some B → β' b' = some B → b = b') :
    SimAt C (s.apply ⟨W, dst.map (·, x)⟩).at (fun b => A b ∨ b = f) (a.put dst v) w' ok' β' := by
  have hblk : ∀ b, (s.apply ⟨W, dst.map (·, x)⟩).at (.b b) = .k ((wval W b).getD (s.blk b)) := fun b => by
    rw [St.at_apply]
    simp only [Upd.at, St.at]
    cases wval W b <;> rfl
  refine ⟨?_, ?_, hf, fun t y hy => ?_, fun b k hbk => ?_, fun b b' B k k' h1 h2 => ?_, fun b B hB => ?_, fun b k hbk => ?_, fun b hb' => ?_, fun b hb' => .inl (h.lused b hb')⟩
  · cases dst <;> exact h.defers
  · cases dst with
    | none => exact h.nt
    | some t => simpa [Act.put] using h.nt
  · rw [St.at_apply] at hy
    cases dst with
    | none =>
      simp only [Upd.at, Option.map_none, Option.getD_none] at hy
      exact RepV.keep hk hs hb _ _ (h.env t y hy)
    | some d =>
      simp only [Option.getD_some] at hd
      rw [put_getD hd]
      simp only [Upd.at, Option.map_some] at hy
      by_cases e : t = d
      · subst e
        simp at hy
        subst hy
        rw [if_pos rfl]
        exact hx (by simp)
      · simp only [e, if_false, Option.getD_none] at hy ⊢
        exact RepV.keep hk hs hb _ _ (h.env t y hy)
  · rw [hblk] at hbk
    cases e : wval W b with
    | some y =>
      rw [e] at hbk
      simp at hbk
      subst hbk
      exact (hw b k e).2
    | none =>
      rw [e] at hbk
      simp at hbk
      rcases h.mem b k (by simp [St.at, hbk]) with ⟨h1, h2⟩ | ⟨B, h1, h2, h3⟩
      · cases e2 : β' b with
        | none => exact .inl ⟨rfl, h2⟩
        | some B =>
          rcases hu b B e2 with h4 | h4
          · rw [h1] at h4; cases h4
          · subst h4; rw [hfr] at hbk; cases hbk
      · exact .inr ⟨B, hb _ _ h1, hn b k B e hbk h1 h2, h3⟩
  · rw [hblk] at h1 h2
    refine hi b b' B ?_ ?_ ?_ ?_
    · intro e; rw [e] at h1; simp at h1; rw [h1]; simp
    · intro e; rw [e] at h1; simp at h1
    · intro e; rw [e] at h2; simp at h2; rw [h2]; simp
    · intro e; rw [e] at h2; simp at h2
  · rcases hu b B hB with h4 | h4
    · exact .inl (h.used b B h4)
    · exact .inr h4
  · rw [hblk] at hbk
    cases e : wval W b with
    | some y =>
      rw [e] at hbk; simp at hbk; subst hbk
      exact (hw b k e).1
    | none =>
      rw [e] at hbk; simp at hbk
      exact .inl (h.mused b k (by simp [St.at, hbk]))
  · rw [← h.ltd b hb']
    cases e : β b with
    | some B => exact hb b B e
    | none =>
      cases e2 : β' b with
      | none => rfl
      | some B =>
        rcases hu b B e2 with h4 | h4
        · rw [e] at h4; cases h4
        · subst h4; exact absurd (h.lused b hb') hA

/-- WHAT A STEP OWES. -/
def StepOk (P : Program) (op : Op) (f : Nat) (g : Nat → V) (m : Nat → Option Blk) (R : List Nat) (W : List (Nat × Option Blk)) (v : V) : Prop :=
  ∀ (C : Ctx) (u : St) (A : Nat → Prop) (a : Act) (w : World) (o : Oper) (Q : Exit → Act → World → Prop), C.P = P → o.op = op → SimA C u A a w →
    (∀ t, .tmp t ∈ op.operands → u.get t = g t) → (∀ b ∈ R, u.blk b = m b) → ¬ A f → o.dst.getD 0 < C.nt →
    o.wp P a w (fun a' w' => SimA C (u.apply ⟨W, o.dst.map (·, v)⟩) (fun b => A b ∨ b = f) a' w') Q

section
variable {C : Ctx} {u : St} {A : Nat → Prop} {a : Act} {w : World} {ok : Nat → Prop} {β : Nat → Option Nat} {P : Program}

theorem SimAt.fresh {f : Nat} (h : SimAt C u.at A a w ok β) (hf : ¬ A f) : u.blk f = none ∧ β f = none := by
  constructor
  · cases e : u.blk f with
    | none => rfl
    | some k => exact absurd (h.mused f k (by simp [St.at, e])) hf
  · cases e : β f with
    | none => rfl
    | some B => exact absurd (h.used f B e) hf

theorem SimAt.opv {g : Nat → V} (h : SimAt C u.at A a w ok β) {x : Operand} (hx : ∀ t, x = .tmp t → u.get t = g t) : RepV w.heap ok β (opv g x) (a.eval x) := by
  cases x with
  | tmp t =>
    simp only [Abs.opv, Act.eval]
    rw [← hx t rfl]
    exact h.env t _ rfl
  | const v =>
    simp only [Abs.opv, Act.eval]
    unfold ofConst
    split <;> simp [RepV, RepD]
  | func i =>
    simp only [Abs.opv, Act.eval, RepV]
    exact ⟨#[], rfl, rfl, by simp⟩
  | global i => simp [Abs.opv, RepV]

/-- A step that leaves the world alone. -/
theorem SimAt.value {v : V} {r : Value} {f : Nat} {dst : Option Nat} (h : SimAt C u.at A a w ok β) (hf : ¬ A f) (hd : dst.getD 0 < C.nt) (hr : RepV w.heap ok β v r) :
    SimA C (u.apply ⟨[], dst.map (·, v)⟩) (fun b => A b ∨ b = f) (a.put dst r) w := by
  obtain ⟨f1, f2⟩ := h.fresh hf
  refine ⟨ok, β, h.step hf (by rw [h.nt]; exact hd) h.frame ⟨fun _ _ => rfl, fun _ h => h⟩ (Shape.refl _) (fun _ _ h => h) (fun _ _ h => .inl h) (fun _ => hr) (fun b k e => by simp [wval] at e) (fun _ _ _ _ _ _ h => h) f1 ?_⟩
  intro b b' B h1 _ h2 _ e1 e2
  simp only [wval, true_implies] at h1 h2
  cases k1 : u.blk b with
  | none => exact absurd k1 h1
  | some x => cases k2 : u.blk b' with
    | none => exact absurd k2 h2
    | some y => exact h.inj b b' B x y (by simp [St.at, k1]) (by simp [St.at, k2]) e1 e2

/-- What is known of a block that is read. -/
def BlkOk (H : Array Obj) (ok : Nat → Prop) (β : Nat → Option Nat) (b : Nat) (k : Blk) : Prop := (β b = none ∧ k.cells = []) ∨ ∃ B, β b = some B ∧ BlkAt H ok B k

/-- The frame of a value operation. -/
theorem stepOk_value {op : Op} {f : Nat} {g : Nat → V} {m : Nat → Option Blk} {R : List Nat} {v : V}
    (h : ∀ (w : World) (ok : Nat → Prop) (β : Nat → Option Nat) (ρ : Operand → Value) (dst : Option Tmp) (ty : TypeId) (pos : String) (after : Array Edge) (guard : Option (Nat × Bool)),
      (∀ x ∈ op.operands, RepV w.heap ok β (opv g x) (ρ x)) → (∀ b ∈ R, ∀ blk, m b = some blk → BlkOk w.heap ok β b blk) →
      ∃ r, (execOp ρ ⟨dst, op, ty, pos, after, guard⟩).run P w = .ok (.value r) w ∧ RepV w.heap ok β v r) : StepOk P op f g m R [] v := by
  intro C u A a w o Q hC ho hS hg hm hA hd
  obtain ⟨ok, β, hS⟩ := hS
  obtain ⟨dst, op', ty, pos, after, guard⟩ := o
  simp only at ho
  subst ho
  obtain ⟨r, e, hr⟩ := h w ok β a.eval dst ty pos after guard (fun x hx => hS.opv (fun t e => hg t (e ▸ hx))) (fun b hb blk e => by
    rw [← hm b hb] at e
    rcases hS.mem b blk (by simp [St.at, e]) with h | ⟨B, h1, h2, _⟩
    · exact .inl h
    · exact .inr ⟨B, h1, h2⟩)
  unfold Oper.wp
  rw [e]
  simp only [Oper.upon]
  exact hS.value hA hd hr
end

end Go.Abs

set_option linter.unusedVariables false
set_option linter.unusedSimpArgs false
namespace Go.Abs
open Go

variable {P : Program} {T : Tab} {f : Nat} {g : Nat → V} {m : Nat → Option Blk} {k : List Nat → List (Nat × Option Blk) → V → Prop}

theorem ok_move {x : Operand} : StepOk P (.move x) f g m [] [] (opv g x) :=
  stepOk_value fun w ok β ρ dst ty pos after guard hx hm => ⟨ρ x, by simp [execOp, go_sem], hx x (by simp [Op.operands])⟩

theorem ok_assign {x : Operand} : StepOk P (.assign x) f g m [] [] (opv g x) :=
  stepOk_value fun w ok β ρ dst ty pos after guard hx hm => ⟨ρ x, by simp [execOp, go_sem], hx x (by simp [Op.operands])⟩

theorem ok_pick {c x y : Operand} {t : Bool} (hc : opv g c = .d (.bool t)) : StepOk P (.pick c x y) f g m [] [] (if t = true then opv g x else opv g y) :=
  stepOk_value fun w ok β ρ dst ty pos after guard hx hm => by
    have h1 := hx c (by simp [Op.operands])
    rw [hc] at h1
    simp only [RepV, RepD] at h1
    refine ⟨if t = true then ρ x else ρ y, by simp [execOp, go_sem, h1, asBool], ?_⟩
    split
    · exact hx x (by simp [Op.operands])
    · exact hx y (by simp [Op.operands])

theorem rep_int {H : Array Obj} {ok : Nat → Prop} {β : Nat → Option Nat} {kk : IntKind} {n : Int} {v : Value} : RepV H ok β (.d (.int kk n)) v ↔ v = .int kk n := by simp [RepV, RepD]
theorem rep_bool {H : Array Obj} {ok : Nat → Prop} {β : Nat → Option Nat} {b : Bool} {v : Value} : RepV H ok β (.d (.bool b)) v ↔ v = .bool b := by simp [RepV, RepD]

theorem two_int {op : BinOp} {t t2 : Nat} {x y : Operand} {k1 k2 : IntKind} {a b : Int} {v : V} (hx : opv g x = .d (.int k1 a)) (hy : opv g y = .d (.int k2 b))
   (h : ∀ w ρ dst ty pos after guard, ρ x = .int k1 a → ρ y = .int k2 b → ∃ r, (execOp ρ ⟨dst, .binOp op t x y t2, ty, pos, after, guard⟩).run P w = .ok (.value r) w ∧ ∀ H ok β, RepV H ok β v r) : StepOk P (.binOp op t x y t2) f g m [] [] v :=
  stepOk_value fun w ok β ρ dst ty pos after guard hv hm => by
    have h1 := hv x (by simp [Op.operands])
    have h2 := hv y (by simp [Op.operands])
    rw [hx] at h1
    rw [hy] at h2
    simp only [rep_int] at h1 h2
    obtain ⟨r, e, h3⟩ := h w ρ dst ty pos after guard h1 h2
    exact ⟨r, e, h3 _ _ _⟩
theorem two_bool {op : BinOp} {t t2 : Nat} {x y : Operand} {a b : Bool} {v : V} (hx : opv g x = .d (.bool a)) (hy : opv g y = .d (.bool b))
   (h : ∀ w ρ dst ty pos after guard, ρ x = .bool a → ρ y = .bool b → ∃ r, (execOp ρ ⟨dst, .binOp op t x y t2, ty, pos, after, guard⟩).run P w = .ok (.value r) w ∧ ∀ H ok β, RepV H ok β v r) : StepOk P (.binOp op t x y t2) f g m [] [] v :=
  stepOk_value fun w ok β ρ dst ty pos after guard hv hm => by
    have h1 := hv x (by simp [Op.operands])
    have h2 := hv y (by simp [Op.operands])
    rw [hx] at h1
    rw [hy] at h2
    simp only [rep_bool] at h1 h2
    obtain ⟨r, e, h3⟩ := h w ρ dst ty pos after guard h1 h2
    exact ⟨r, e, h3 _ _ _⟩
theorem boolTy (hT : TabOk P T) {t : Nat} (hs : (T t).map (·.kind) = some .bool) : P.underlying t = some .bool := by
  cases e : T t with
  | none => simp [e] at hs
  | some ti =>
    have := hT.desc t ti e
    simp [e] at hs
    rw [hs] at this
    exact this

set_option maxHeartbeats 1000000 in
theorem ok_bin (hT : TabOk P T) {op : BinOp} {t t2 : Nat} {x y : Operand} {k : V → Prop} (h : evalBin T op t (opv g x) (opv g y) k) : ∃ v, k v ∧ StepOk P (.binOp op t x y t2) f g m [] [] v := by
  generalize hx : opv g x = vx at h
  generalize hy : opv g y = vy at h
  unfold evalBin at h
  split at h
  case h_1 => exact ⟨_, h.2, two_int hx hy fun w ρ dst ty pos after guard e1 e2 => ⟨_, by have hs' := Int.not_lt.2 h.1; simp [execOp, go_sem, e1, e2, binOp, Op.shift, hs'], fun _ _ _ => rep_int.2 rfl⟩⟩
  case h_2 => exact ⟨_, h.2, two_int hx hy fun w ρ dst ty pos after guard e1 e2 => ⟨_, by have hs' := Int.not_lt.2 h.1; simp [execOp, go_sem, e1, e2, binOp, Op.shift, hs'], fun _ _ _ => rep_int.2 rfl⟩⟩
  case h_3 => obtain ⟨rfl, h⟩ := h; exact ⟨_, h, two_int hx hy fun w ρ dst ty pos after guard e1 e2 => ⟨_, by simp [execOp, go_sem, e1, e2, binOp, Op.intArith], fun _ _ _ => rep_int.2 rfl⟩⟩
  case h_4 => obtain ⟨rfl, h⟩ := h; exact ⟨_, h, two_int hx hy fun w ρ dst ty pos after guard e1 e2 => ⟨_, by simp [execOp, go_sem, e1, e2, binOp, Op.intArith], fun _ _ _ => rep_int.2 rfl⟩⟩
  case h_5 => obtain ⟨rfl, h⟩ := h; exact ⟨_, h, two_int hx hy fun w ρ dst ty pos after guard e1 e2 => ⟨_, by simp [execOp, go_sem, e1, e2, binOp, Op.intArith], fun _ _ _ => rep_int.2 rfl⟩⟩
  case h_6 => obtain ⟨⟨rfl, h0⟩, h⟩ := h; exact ⟨_, h, two_int hx hy fun w ρ dst ty pos after guard e1 e2 => ⟨_, by simp [execOp, go_sem, e1, e2, binOp, Op.intDiv, h0], fun _ _ _ => rep_int.2 rfl⟩⟩
  case h_7 => obtain ⟨⟨rfl, h0⟩, h⟩ := h; exact ⟨_, h, two_int hx hy fun w ρ dst ty pos after guard e1 e2 => ⟨_, by simp [execOp, go_sem, e1, e2, binOp, Op.intDiv, h0], fun _ _ _ => rep_int.2 rfl⟩⟩
  case h_8 => obtain ⟨rfl, h⟩ := h; exact ⟨_, h, two_int hx hy fun w ρ dst ty pos after guard e1 e2 => ⟨_, by simp [execOp, go_sem, e1, e2, binOp, Op.intBits], fun _ _ _ => rep_int.2 rfl⟩⟩
  case h_9 => obtain ⟨rfl, h⟩ := h; exact ⟨_, h, two_int hx hy fun w ρ dst ty pos after guard e1 e2 => ⟨_, by simp [execOp, go_sem, e1, e2, binOp, Op.intBits], fun _ _ _ => rep_int.2 rfl⟩⟩
  case h_10 => obtain ⟨rfl, h⟩ := h; exact ⟨_, h, two_int hx hy fun w ρ dst ty pos after guard e1 e2 => ⟨_, by simp [execOp, go_sem, e1, e2, binOp, Op.intBits], fun _ _ _ => rep_int.2 rfl⟩⟩
  case h_11 => obtain ⟨rfl, h⟩ := h; exact ⟨_, h, two_int hx hy fun w ρ dst ty pos after guard e1 e2 => ⟨_, by simp [execOp, go_sem, e1, e2, binOp, Op.intBits], fun _ _ _ => rep_int.2 rfl⟩⟩
  case h_12 => obtain ⟨rfl, h⟩ := h; exact ⟨_, h, two_int hx hy fun w ρ dst ty pos after guard e1 e2 => ⟨_, by simp [execOp, go_sem, e1, e2, binOp, Op.intCmp], fun _ _ _ => rep_bool.2 rfl⟩⟩
  case h_13 => obtain ⟨rfl, h⟩ := h; exact ⟨_, h, two_int hx hy fun w ρ dst ty pos after guard e1 e2 => ⟨_, by simp [execOp, go_sem, e1, e2, binOp, Op.intCmp], fun _ _ _ => rep_bool.2 rfl⟩⟩
  case h_14 => obtain ⟨rfl, h⟩ := h; exact ⟨_, h, two_int hx hy fun w ρ dst ty pos after guard e1 e2 => ⟨_, by simp [execOp, go_sem, e1, e2, binOp, Op.intCmp], fun _ _ _ => rep_bool.2 rfl⟩⟩
  case h_15 => obtain ⟨rfl, h⟩ := h; exact ⟨_, h, two_int hx hy fun w ρ dst ty pos after guard e1 e2 => ⟨_, by simp [execOp, go_sem, e1, e2, binOp, Op.intCmp], fun _ _ _ => rep_bool.2 rfl⟩⟩
  case h_16 => obtain ⟨rfl, h⟩ := h; exact ⟨_, h, two_int hx hy fun w ρ dst ty pos after guard e1 e2 => ⟨_, by simp [execOp, go_sem, e1, e2, binOp, Op.intCmp], fun _ _ _ => rep_bool.2 rfl⟩⟩
  case h_17 => obtain ⟨rfl, h⟩ := h; exact ⟨_, h, two_int hx hy fun w ρ dst ty pos after guard e1 e2 => ⟨_, by simp [execOp, go_sem, e1, e2, binOp, Op.intCmp], fun _ _ _ => rep_bool.2 rfl⟩⟩
  case h_18 => exact ⟨_, h.2, two_bool hx hy fun w ρ dst ty pos after guard e1 e2 => ⟨_, by have hu := boolTy hT h.1; simp [execOp, go_sem, e1, e2, hu], fun _ _ _ => rep_bool.2 rfl⟩⟩
  case h_19 => exact ⟨_, h.2, two_bool hx hy fun w ρ dst ty pos after guard e1 e2 => ⟨_, by have hu := boolTy hT h.1; simp [execOp, go_sem, e1, e2, hu], fun _ _ _ => rep_bool.2 rfl⟩⟩
  case h_20 => exact h.elim

end Go.Abs

set_option linter.unusedVariables false
set_option linter.unusedSimpArgs false
namespace Go.Abs
open Go

variable {P : Program} {T : Tab} {f : Nat} {g : Nat → V} {m : Nat → Option Blk} {k : List Nat → List (Nat × Option Blk) → V → Prop}

theorem one_val {op : Op} {x : Operand} {vx v : V} {R : List Nat} (hm : x ∈ op.operands) (hx : opv g x = vx)
    (h : ∀ (w : World) (ok : Nat → Prop) (β : Nat → Option Nat) (ρ : Operand → Value) (dst : Option Tmp) (ty : TypeId) (pos : String) (after : Array Edge) (guard : Option (Nat × Bool)),
      RepV w.heap ok β vx (ρ x) → (∀ b ∈ R, ∀ blk, m b = some blk → BlkOk w.heap ok β b blk) →
      ∃ r, (execOp ρ ⟨dst, op, ty, pos, after, guard⟩).run P w = .ok (.value r) w ∧ RepV w.heap ok β v r) : StepOk P op f g m R [] v :=
  stepOk_value fun w ok β ρ dst ty pos after guard hv hb => h w ok β ρ dst ty pos after guard (hx ▸ hv x hm) hb

theorem ok_un {op : UnOp} {t : Nat} {x : Operand} {k : V → Prop} (h : evalUn op (opv g x) k) : ∃ v, k v ∧ StepOk P (.unOp op t x) f g m [] [] v := by
  generalize hx : opv g x = vx at h
  unfold evalUn at h
  split at h
  case h_1 => exact ⟨_, h, one_val (by simp [Op.operands]) hx fun w ok β ρ dst ty pos after guard e1 _ => ⟨_, by rw [rep_int] at e1; simp [execOp, go_sem, e1, Op.unary, Op.intArith], rep_int.2 rfl⟩⟩
  case h_2 => exact ⟨_, h, one_val (by simp [Op.operands]) hx fun w ok β ρ dst ty pos after guard e1 _ => ⟨_, by rw [rep_int] at e1; simp [execOp, go_sem, e1, Op.unary, Op.intBits], rep_int.2 rfl⟩⟩
  case h_3 => exact ⟨_, h, one_val (by simp [Op.operands]) hx fun w ok β ρ dst ty pos after guard e1 _ => ⟨_, by rw [rep_bool] at e1; simp [execOp, go_sem, e1, Op.unary], rep_bool.2 rfl⟩⟩
  case h_4 => exact h.elim

theorem slice_desc (hT : TabOk P T) {t e : Nat} {ti : TI} (h : T t = some ti) (hk : ti.kind = .slice e) : P.underlying t = some (.slice e) := by
  have := hT.desc t ti h
  rw [hk] at this
  exact this

theorem size_run (hT : TabOk P T) {t : Nat} {ti : TI} (h : T t = some ti) : ∃ i, P.info? t = some i ∧ i.size = ti.size ∧ i.bytes = ti.bytes := by
  obtain ⟨i, z, e, h1, h2, _⟩ := hT.info t ti h
  exact ⟨i, e, h1, h2⟩

theorem RepL.drop {H : Array Obj} {ok : Nat → Prop} {B o : Nat} {ds : List D} (h : RepL H ok (some ⟨B, o, none⟩) 0 ds) (n : Nat) : RepL H ok (some ⟨B, o + n, none⟩) 0 (ds.drop n) :=
  .ofC fun i d hd => by
    rw [List.getElem?_drop] at hd
    obtain ⟨a, u, b, c⟩ := h.toC _ _ hd
    exact ⟨a, u, by rw [show o + n + i = o + (n + i) by omega]; exact b, c⟩

theorem RepL.take {H : Array Obj} {ok : Nat → Prop} {A : Option Addr} {ds : List D} (h : RepL H ok A 0 ds) (n : Nat) : RepL H ok A 0 (ds.take n) :=
  RepL_iff.2 fun i d hd => RepL_iff.1 h i d (by
    rw [List.getElem?_take] at hd
    split at hd
    · exact hd
    · cases hd)

theorem RepL.some {H : Array Obj} {ok : Nat → Prop} {A : Option Addr} {ds : List D} (h : RepL H ok A 0 ds) (hne : ds ≠ []) : ∃ B o, A = some ⟨B, o, none⟩ := by
  cases ds with
  | nil => exact absurd rfl hne
  | cons d ds => obtain ⟨B, o, u, e, _⟩ := RepL_iff.1 h 0 d (by simp); exact ⟨B, o, e⟩

theorem ok_index {t e : Nat} {ti te : TI} {x ix : Operand} {n : Nat} {cells : List D} {kk : IntKind} {i : Int} (hT : TabOk P T) (ht : T t = some ti) (hk : ti.kind = .slice e) (he : T e = some te)
    (hx : opv g x = .d (.lst n cells)) (hi : opv g ix = .d (.int kk i)) (h0 : 0 ≤ i) (h1 : i < n) (h2 : (i.toNat + 1) * te.size ≤ cells.length) :
    StepOk P (.indexAddr t x ix) f g m [] [] (.fptr (cells.drop (i.toNat * te.size))) :=
  stepOk_value fun w ok β ρ dst ty pos after guard hv hb => by
    obtain ⟨ie, e1, e2, e3⟩ := size_run hT he
    obtain ⟨_, _, _, _, _, _, _, _, _, hp, _⟩ := hT.info e te he
    have v1 := hv x (by simp [Op.operands]); rw [hx] at v1
    have v2 := hv ix (by simp [Op.operands]); rw [hi, rep_int] at v2
    simp only [RepV, RepD] at v1
    obtain ⟨A, c, v1, hnc, hr⟩ := v1
    have hne : cells ≠ [] := by intro e; subst e; simp at h2; have : 0 < (i.toNat + 1) * te.size := Nat.mul_pos (by omega) hp; omega
    obtain ⟨B, o, rfl⟩ := hr.some hne
    refine ⟨.pointer (some ⟨B, o + i.toNat * te.size, none⟩), ?_, ?_⟩
    · simp [execOp, Instr.indexAt, v1, v2, asIntOf, underlying, sizeOf, typeInfo, go_sem, slice_desc hT ht hk, e1, e2, h0, h1, add_mk]
    · simp only [RepV]
      exact ⟨B, _, rfl, hr.drop _⟩

theorem ok_indexOwn {t e : Nat} {ti te : TI} {x ix : Operand} {b off n sz : Nat} {kk : IntKind} {i : Int} (hT : TabOk P T) (ht : T t = some ti) (hk : ti.kind = .slice e) (he : T e = some te)
    (hx : opv g x = .own b off n sz) (hi : opv g ix = .d (.int kk i)) (h0 : 0 ≤ i) (h1 : i < n) :
    StepOk P (.indexAddr t x ix) f g m [] [] (.ptr b (off + i.toNat * te.size)) :=
  stepOk_value fun w ok β ρ dst ty pos after guard hv hb => by
    obtain ⟨ie, e1, e2, e3⟩ := size_run hT he
    have v1 := hv x (by simp [Op.operands]); rw [hx] at v1
    have v2 := hv ix (by simp [Op.operands]); rw [hi, rep_int] at v2
    simp only [RepV] at v1
    obtain ⟨A, c, v1, hnc, hr⟩ := v1
    rcases hr with ⟨_, rfl⟩ | ⟨B, arr, TT, rfl, hB, hh, hsz⟩
    · omega
    refine ⟨.pointer (some ⟨B, off + i.toNat * te.size, none⟩), ?_, ?_⟩
    · simp [execOp, Instr.indexAt, v1, v2, asIntOf, underlying, sizeOf, typeInfo, go_sem, slice_desc hT ht hk, e1, e2, h0, h1, add_mk]
    · simp only [RepV]
      exact ⟨B, hB, rfl⟩

theorem ok_indexArr {t e n : Nat} {ti te : TI} {x ix : Operand} {b off : Nat} {kk : IntKind} {i : Int} (hT : TabOk P T) (ht : T t = some ti) (hk : ti.kind = .array n e) (he : T e = some te)
    (hx : opv g x = .ptr b off) (hi : opv g ix = .d (.int kk i)) (h0 : 0 ≤ i) (h1 : i < n) :
    StepOk P (.indexAddr t x ix) f g m [] [] (.ptr b (off + i.toNat * te.size)) :=
  stepOk_value fun w ok β ρ dst ty pos after guard hv hb => by
    obtain ⟨ie, e1, e2, e3⟩ := size_run hT he
    have hd := hT.desc t ti ht
    rw [hk] at hd
    simp only at hd
    have v1 := hv x (by simp [Op.operands]); rw [hx] at v1
    have v2 := hv ix (by simp [Op.operands]); rw [hi, rep_int] at v2
    simp only [RepV] at v1
    obtain ⟨B, hB, v1⟩ := v1
    refine ⟨.pointer (some ⟨B, off + i.toNat * te.size, none⟩), ?_, ?_⟩
    · simp [execOp, Instr.indexAt, Instr.sureAddr, v1, v2, asIntOf, underlying, sizeOf, typeInfo, go_sem, hd, e1, e2, h0, h1, add_mk]
    · simp only [RepV]
      exact ⟨B, hB, rfl⟩

theorem field_run {s j o sz : Nat} {ti : TI} {offs : List (Nat × Nat)} (hT : TabOk P T) (hs : T s = some ti) (hk : ti.kind = .struct offs) (hj : offs[j]? = some (o, sz)) :
    ∃ (fs : Array Field) (fd : Field) (i : TypeInfo), P.underlying s = some (.struct fs) ∧ fs[j]? = some fd ∧ fd.offset = o ∧ P.info? fd.type = some i ∧ i.size ≠ 0 := by
  have hd := hT.desc s ti hs
  rw [hk] at hd
  obtain ⟨fs, h1, _, h3⟩ := hd
  obtain ⟨fd, i, h4, h5, h6, h7, h8⟩ := h3 j o sz hj
  exact ⟨fs, fd, i, h1, h4, h5, h6, by omega⟩

theorem ok_field {s j o sz : Nat} {ti : TI} {offs : List (Nat × Nat)} {x : Operand} {b off : Nat} (hT : TabOk P T) (hs : T s = some ti) (hk : ti.kind = .struct offs) (hj : offs[j]? = some (o, sz))
    (hx : opv g x = .ptr b off) : StepOk P (.fieldAddr s x j) f g m [] [] (.ptr b (off + o)) :=
  one_val (by simp [Op.operands]) hx fun w ok β ρ dst ty pos after guard v1 _ => by
    obtain ⟨fs, fd, i, h1, h2, h3, h4, h5⟩ := field_run hT hs hk hj
    simp only [RepV] at v1
    obtain ⟨B, hB, v1⟩ := v1
    refine ⟨.pointer (some ⟨B, off + o, none⟩), ?_, by simp only [RepV]; exact ⟨B, hB, rfl⟩⟩
    simp [execOp, Instr.fieldAt, Instr.sureAddr, fieldPlace, v1, underlying, sizeOf, typeInfo, go_sem, h1, h2, h3, h4, h5, add_mk]

theorem ok_fieldF {s j o sz : Nat} {ti : TI} {offs : List (Nat × Nat)} {x : Operand} {cells : List D} (hT : TabOk P T) (hs : T s = some ti) (hk : ti.kind = .struct offs) (hj : offs[j]? = some (o, sz))
    (hx : opv g x = .fptr cells) : StepOk P (.fieldAddr s x j) f g m [] [] (.fptr (cells.drop o)) :=
  one_val (by simp [Op.operands]) hx fun w ok β ρ dst ty pos after guard v1 _ => by
    obtain ⟨fs, fd, i, h1, h2, h3, h4, h5⟩ := field_run hT hs hk hj
    simp only [RepV] at v1
    obtain ⟨B, off, v1, hr⟩ := v1
    refine ⟨.pointer (some ⟨B, off + o, none⟩), ?_, by simp only [RepV]; exact ⟨B, _, rfl, hr.drop _⟩⟩
    simp [execOp, Instr.fieldAt, Instr.sureAddr, fieldPlace, v1, underlying, sizeOf, typeInfo, go_sem, h1, h2, h3, h4, h5, add_mk]

theorem ok_nilCheck {x : Operand} {v : V} (hx : opv g x = v) (hv : (∃ b off, v = .ptr b off) ∨ (∃ cs, v = .fptr cs) ∨ ∃ i cs, v = .fn i cs) : StepOk P (.nilCheck x) f g m [] [] v :=
  one_val (by simp [Op.operands]) hx fun w ok β ρ dst ty pos after guard v1 _ => by
    refine ⟨ρ x, ?_, v1⟩
    rcases hv with ⟨b, off, rfl⟩ | ⟨cs, rfl⟩ | ⟨i, cs, rfl⟩
    · simp only [RepV] at v1; obtain ⟨B, _, v1⟩ := v1; simp [execOp, go_sem, v1]
    · simp only [RepV] at v1; obtain ⟨B, o, v1, _⟩ := v1; simp [execOp, go_sem, v1]
    · simp only [RepV] at v1; obtain ⟨vs, v1, _⟩ := v1; simp [execOp, go_sem, v1]

theorem ok_extract {x : Operand} {vs : List V} {i : Nat} {v : V} (hx : opv g x = .tup vs) (hi : vs[i]? = some v) : StepOk P (.extract x i) f g m [] [] v :=
  one_val (by simp [Op.operands]) hx fun w ok β ρ dst ty pos after guard v1 _ => by
    simp only [RepV] at v1
    obtain ⟨arr, v1, hl, hr⟩ := v1
    obtain ⟨u, e, r⟩ := RepVs_iff.1 hr i v hi
    rw [Nat.zero_add] at e
    exact ⟨u, by simp [execOp, Instr.extract, go_sem, v1, e], r⟩

theorem ok_strIndex {t : Nat} {x ix : Operand} {s : ByteArray} {kk : IntKind} {i : Int} {b : UInt8} (hx : opv g x = .str s) (hi : opv g ix = .d (.int kk i)) (hd : P.underlying t = some .string) (h0 : 0 ≤ i) (h1 : s[i.toNat]? = some b) :
    StepOk P (.index t x ix) f g m [] [] (.d (.int .u8 b.toNat)) :=
  stepOk_value fun w ok β ρ dst ty pos after guard hv hb => by
    have v1 := hv x (by simp [Op.operands]); rw [hx] at v1
    have v2 := hv ix (by simp [Op.operands]); rw [hi, rep_int] at v2
    simp only [RepV] at v1
    refine ⟨.int .u8 b.toNat, ?_, rep_int.2 rfl⟩
    simp [execOp, Instr.index, v1, v2, asIntOf, underlying, go_sem, hd, h0, h1]

end Go.Abs

set_option linter.unusedVariables false
set_option linter.unusedSimpArgs false
namespace Go.Abs
open Go

variable {P : Program} {T : Tab} {f : Nat} {g : Nat → V} {m : Nat → Option Blk}

theorem ok_convert {src dst : Nat} {x : Operand} {si ti : TI} {k0 kk kx : IntKind} {n : Int} (hT : TabOk P T) (h1 : T src = some si) (h2 : T dst = some ti) (k1 : si.kind = .int k0) (k2 : ti.kind = .int kk)
    (hx : opv g x = .d (.int kx n)) : StepOk P (.convert src dst x) f g m [] [] (.d (.int kk (kk.wrap n))) :=
  one_val (by simp [Op.operands]) hx fun w ok β ρ dst' ty pos after guard v1 _ => by
    rw [rep_int] at v1
    have d1 := hT.desc src si h1; rw [k1] at d1; simp only at d1
    have d2 := hT.desc dst ti h2; rw [k2] at d2; simp only at d2
    exact ⟨.int kk (kk.wrap n), by simp [execOp, convert, Conv.intToInt, underlying, go_sem, v1, d1, d2], rep_int.2 rfl⟩

theorem agg_run (hT : TabOk P T) {t : Nat} {ti : TI} (h : T t = some ti) (ha : T.agg t = true) (w : World) : (isAgg t).run P w = .ok true w := by
  have hd := hT.desc t ti h
  unfold Tab.agg at ha
  rw [h] at ha
  simp only at ha
  split at ha
  · rename_i offs e; rw [e] at hd; obtain ⟨fs, hd, _⟩ := hd; simp [isAgg, underlying, go_sem, hd]
  · rename_i n e' e; rw [e] at hd; simp only at hd; simp [isAgg, underlying, go_sem, hd]
  · cases ha

theorem flat_run (hT : TabOk P T) {t : Nat} (ha : T.flat t = true) (w : World) : (isAgg t).run P w = .ok false w ∧ ∃ ti, T t = some ti ∧ ti.size = 1 := by
  unfold Tab.flat at ha
  cases h : T t with
  | none => rw [h] at ha; cases ha
  | some ti =>
    have hd := hT.desc t ti h
    rw [h] at ha
    simp only at ha
    split at ha
    · rename_i kk e; rw [e] at hd; simp only at hd; exact ⟨by simp [isAgg, underlying, go_sem, hd], ti, rfl, by simpa using ha⟩
    · rename_i e; rw [e] at hd; simp only at hd; exact ⟨by simp [isAgg, underlying, go_sem, hd], ti, rfl, by simpa using ha⟩
    · rename_i e' e; rw [e] at hd; simp only at hd; exact ⟨by simp [isAgg, underlying, go_sem, hd], ti, rfl, by simpa using ha⟩
    · cases ha

theorem at_of {w : World} {B i : Nat} {arr : Array Value} {TT : TypeId} {fr : Nat × Nat} {u : Value} (h : w.heap[B]? = some (.cells arr TT fr)) (e : arr[i]? = some u) : At w.heap B i u := ⟨arr, TT, fr, h, e⟩

/-- Many cells of a row, out of their readings. -/
theorem row_of {w : World} {ok : Nat → Prop} {B o : Nat} {cells : List D} (h : ∀ i d, cells[i]? = some d → ∃ u, At w.heap B (o + i) u ∧ RepD w.heap ok d u) :
    ∃ arr : Array Value, arr.size = cells.length ∧ RepC w.heap ok cells arr 0 ∧ ∀ j, j < cells.length → ∃ u, arr[j]? = some u ∧ At w.heap B (o + j) u := by
  induction cells generalizing o with
  | nil => exact ⟨#[], rfl, by intro i d hd; simp at hd, by intro j hj; simp at hj⟩
  | cons d ds ih =>
    obtain ⟨u0, a0, r0⟩ := h 0 d (by simp)
    obtain ⟨arr, h1, h2, h3⟩ := ih (o := o + 1) (fun i x hx => by
      obtain ⟨u, a, r⟩ := h (i + 1) x (by simpa using hx)
      exact ⟨u, by rw [show o + 1 + i = o + (i + 1) by omega]; exact a, r⟩)
    refine ⟨⟨u0 :: arr.toList⟩, by simp [h1], fun i x hx => ?_, fun j hj => ?_⟩
    · cases i with
      | zero => simp at hx; subst hx; exact ⟨u0, by simp, r0⟩
      | succ i =>
        obtain ⟨u, e, r⟩ := h2 i x (by simpa using hx)
        exact ⟨u, by simp at e ⊢; exact e, r⟩
    · cases j with
      | zero => exact ⟨u0, by simp, a0⟩
      | succ j =>
        obtain ⟨u, e, r⟩ := h3 j (by simpa using hj)
        exact ⟨u, by simp at e ⊢; exact e, by rw [show o + (j + 1) = o + 1 + j by omega]; exact r⟩

theorem ok_loadF {t : Nat} {x : Operand} {cells : List D} {d : D} (hT : TabOk P T) (ht : T.flat t = true) (hx : opv g x = .fptr cells) (hd : cells[0]? = some d) :
    StepOk P (.load t x) f g m [] [] (.d d) :=
  one_val (by simp [Op.operands]) hx fun w ok β ρ dst ty pos after guard v1 _ => by
    simp only [RepV] at v1
    obtain ⟨B, o, v1, hr⟩ := v1
    obtain ⟨_, u, hu, r⟩ := hr.toC 0 d hd
    have ha := (flat_run hT ht w).1
    exact ⟨u, by simp only [execOp, Instr.loadAt, Instr.sureAddr, loadVar, v1]; simp [go_sem, ha, run_load_at hu, cell_at (by simpa using hu)], by simpa only [RepV] using r⟩

theorem ok_loadFA {t : Nat} {x : Operand} {ti : TI} {cells : List D} (hT : TabOk P T) (ht : T t = some ti) (ha : T.agg t = true) (hx : opv g x = .fptr cells) (hl : ti.size ≤ cells.length) :
    StepOk P (.load t x) f g m [] [] (.agg (cells.take ti.size)) :=
  one_val (by simp [Op.operands]) hx fun w ok β ρ dst ty pos after guard v1 _ => by
    simp only [RepV] at v1
    obtain ⟨B, o, v1, hr⟩ := v1
    obtain ⟨i, e1, e2, e3⟩ := size_run hT ht
    obtain ⟨arr, h1, h2, h3⟩ := row_of (w := w) (B := B) (o := o) (ok := ok) (cells := cells.take ti.size) (fun i d hd => by
      obtain ⟨_, u, hu, r⟩ := (hr.take ti.size).toC i d hd
      exact ⟨u, hu, r⟩)
    have hsz : arr.size = ti.size := by rw [h1, List.length_take]; omega
    have hrun := run_loadCells (P := P) (w := w) (B := B) (o := o) hsz (fun j hj => h3 j (by rw [List.length_take]; omega))
    refine ⟨.agg arr, ?_, by simp only [RepV]; exact ⟨arr, rfl, h1, h2⟩⟩
    unfold loadCells at hrun
    simp only [execOp, Instr.loadAt, Instr.sureAddr, loadVar, v1]
    simp [go_sem, agg_run hT ht ha w, sizeOf, typeInfo, e1, e2, hrun]

theorem ok_load {t : Nat} {x : Operand} {b off : Nat} {blk : Blk} {d : D} (hT : TabOk P T) (ht : T.flat t = true) (hx : opv g x = .ptr b off) (hb : m b = some blk) (hd : blk.cells[off]? = some d) :
    StepOk P (.load t x) f g m [b] [] (.d d) :=
  one_val (by simp [Op.operands]) hx fun w ok β ρ dst ty pos after guard v1 hm => by
    simp only [RepV] at v1
    obtain ⟨B, hB, v1⟩ := v1
    rcases hm b (by simp) blk hb with ⟨h1, _⟩ | ⟨B', h1, arr, TT, h2, h3, h4, _⟩
    · rw [hB] at h1; cases h1
    rw [hB] at h1; cases h1
    obtain ⟨u, hu, r⟩ := h4 off d hd
    rw [Nat.zero_add] at hu
    have ha := (flat_run hT ht w).1
    have hat := at_of h2 hu
    exact ⟨u, by simp only [execOp, Instr.loadAt, Instr.sureAddr, loadVar, v1]; simp [go_sem, ha, run_load_at hat, cell_at hat], by simpa only [RepV] using r⟩

theorem ok_loadA {t : Nat} {x : Operand} {ti : TI} {b off : Nat} {blk : Blk} (hT : TabOk P T) (ht : T t = some ti) (ha : T.agg t = true) (hx : opv g x = .ptr b off) (hb : m b = some blk) (hl : off + ti.size ≤ blk.cells.length) :
    StepOk P (.load t x) f g m [b] [] (.agg ((blk.cells.drop off).take ti.size)) :=
  one_val (by simp [Op.operands]) hx fun w ok β ρ dst ty pos after guard v1 hm => by
    simp only [RepV] at v1
    obtain ⟨B, hB, v1⟩ := v1
    rcases hm b (by simp) blk hb with ⟨h1, _⟩ | ⟨B', h1, arr0, TT, h2, h3, h4, _⟩
    · rw [hB] at h1; cases h1
    rw [hB] at h1; cases h1
    obtain ⟨i, e1, e2, e3⟩ := size_run hT ht
    obtain ⟨arr, g1, g2, g3⟩ := row_of (w := w) (B := B) (o := off) (ok := ok) (cells := (blk.cells.drop off).take ti.size) (fun i d hd => by
      rw [List.getElem?_take] at hd
      split at hd
      · rw [List.getElem?_drop] at hd
        obtain ⟨u, hu, r⟩ := h4 _ d hd
        rw [Nat.zero_add] at hu
        exact ⟨u, at_of h2 hu, r⟩
      · cases hd)
    have hlen : ((blk.cells.drop off).take ti.size).length = ti.size := by rw [List.length_take, List.length_drop]; omega
    have hsz : arr.size = ti.size := by rw [g1, hlen]
    have hrun := run_loadCells (P := P) (w := w) (B := B) (o := off) hsz (fun j hj => g3 j (by rw [hlen]; omega))
    refine ⟨.agg arr, ?_, by simp only [RepV]; exact ⟨arr, rfl, g1, g2⟩⟩
    unfold loadCells at hrun
    simp only [execOp, Instr.loadAt, Instr.sureAddr, loadVar, v1]
    simp [go_sem, agg_run hT ht ha w, sizeOf, typeInfo, e1, e2, hrun]

theorem ok_len {t : Nat} {x : Operand} {n e : Nat} {ti : TI} {c : Call} (hT : TabOk P T) (ht : T t = some ti) (hk : ti.kind = .slice e) (h1 : c.callee = .builtin .len) (h2 : c.args = #[x]) (h3 : c.argTypes = #[t])
    (hx : (∃ cells, opv g x = .d (.lst n cells)) ∨ (∃ b off sz, opv g x = .own b off n sz) ∨ (opv g x = .nil ∧ n = 0)) : StepOk P (.call c) f g m [] [] (.d (.int .i64 n)) :=
  stepOk_value fun w ok β ρ dst ty pos after guard hv hb => by
    obtain ⟨callee, args, types⟩ := c
    simp only at h1 h2 h3; subst h1; subst h2; subst h3
    have v1 := hv x (by simp [Op.operands, Call.operands])
    have : ∃ A c, ρ x = .slice A n c := by
      rcases hx with ⟨cells, hx⟩ | ⟨b, off, sz, hx⟩ | ⟨hx, rfl⟩
      · rw [hx] at v1; simp only [RepV, RepD] at v1; obtain ⟨A, c, e, _⟩ := v1; exact ⟨A, c, e⟩
      · rw [hx] at v1; simp only [RepV] at v1; obtain ⟨A, c, e, _⟩ := v1; exact ⟨A, c, e⟩
      · rw [hx] at v1; simp only [RepV] at v1; exact ⟨_, _, v1⟩
    obtain ⟨A, c, e1⟩ := this
    refine ⟨.int .i64 n, ?_, rep_int.2 rfl⟩
    simp [execOp, resolve, invoke, builtin, Builtin.len_, underlying, go_sem, e1, slice_desc hT ht hk, goInt]

theorem ok_max {x y : Operand} {k1 k2 : IntKind} {a b : Int} {c : Call} (h1 : c.callee = .builtin .max) (h2 : c.args = #[x, y]) (hx : opv g x = .d (.int k1 a)) (hy : opv g y = .d (.int k2 b)) :
    StepOk P (.call c) f g m [] [] (.d (.int k1 (if b > a then b else a))) :=
  stepOk_value fun w ok β ρ dst ty pos after guard hv hb => by
    obtain ⟨callee, args, types⟩ := c
    simp only at h1 h2; subst h1; subst h2
    have v1 := hv x (by simp [Op.operands, Call.operands]); rw [hx, rep_int] at v1
    have v2 := hv y (by simp [Op.operands, Call.operands]); rw [hy, rep_int] at v2
    refine ⟨.int k1 (if b > a then b else a), ?_, rep_int.2 rfl⟩
    simp [execOp, resolve, invoke, builtin, Builtin.max_, Builtin.max2, go_sem, v1, v2]

theorem ok_min {x y : Operand} {k1 k2 : IntKind} {a b : Int} {c : Call} (h1 : c.callee = .builtin .min) (h2 : c.args = #[x, y]) (hx : opv g x = .d (.int k1 a)) (hy : opv g y = .d (.int k2 b)) :
    StepOk P (.call c) f g m [] [] (.d (.int k1 (if b < a then b else a))) :=
  stepOk_value fun w ok β ρ dst ty pos after guard hv hb => by
    obtain ⟨callee, args, types⟩ := c
    simp only at h1 h2; subst h1; subst h2
    have v1 := hv x (by simp [Op.operands, Call.operands]); rw [hx, rep_int] at v1
    have v2 := hv y (by simp [Op.operands, Call.operands]); rw [hy, rep_int] at v2
    refine ⟨.int k1 (if b < a then b else a), ?_, rep_int.2 rfl⟩
    simp [execOp, resolve, invoke, builtin, Builtin.min_, Builtin.min2, go_sem, v1, v2]


theorem ok_makeFunc {fid : Nat} {first caps : Array Operand} {cs : List (Nat × Nat)} (h0 : first.size = 0) (h1 : caps.toList.map (opv g) = cs.map fun p => .ptr p.1 p.2) :
    StepOk P (.makeFunc (.func fid) first caps) f g m [] [] (.fn fid cs) :=
  stepOk_value fun w ok β ρ dst ty pos after guard hv hb => by
    have hf : first = #[] := Array.eq_empty_of_size_eq_zero h0
    subst hf
    have hl : caps.size = cs.length := by have := congrArg List.length h1; simpa using this
    refine ⟨.func (.func fid) #[] (caps.map ρ), by simp [execOp, Instr.makeFunc, go_sem], ?_⟩
    simp only [RepV]
    refine ⟨_, rfl, by simpa using hl, fun i p hp => ?_⟩
    have hi : i < caps.size := by rw [hl]; exact (List.getElem?_eq_some_iff.1 hp).1
    have e : (caps.toList.map (opv g))[i]? = some (.ptr p.1 p.2) := by rw [h1, List.getElem?_map, hp]; rfl
    rw [List.getElem?_map] at e
    have e2 : caps.toList[i]? = some caps[i] := by simp [hi]
    rw [e2] at e
    simp at e
    have v1 := hv caps[i] (by simp [Op.operands])
    rw [e] at v1
    simp only [RepV] at v1
    obtain ⟨B, hB, v1⟩ := v1
    exact ⟨B, hB, by simp [hi, v1]⟩

theorem bound_ok (i : Int) (kk : IntKind) (y : Nat) (code : BoundsCode) (w : World) (h0 : 0 ≤ i) (h1 : i ≤ y) : (Instr.sliceBound (.int kk i) y code).run P w = .ok i.toNat w := by
  simp [Instr.sliceBound, asIntOf, go_sem, h0, h1]

theorem run_cut {t e : Nat} {ie : TypeInfo} {A : Option Addr} {n c l h : Nat} {lo hi : Option Value} {w : World} (hd : P.underlying t = some (.slice e)) (hi0 : P.info? e = some ie)
    (hlo : (lo = none ∧ l = 0) ∨ ∃ kk i, lo = some (.int kk i) ∧ 0 ≤ i ∧ i.toNat = l) (hhi : (hi = none ∧ h = n) ∨ ∃ kk i, hi = some (.int kk i) ∧ 0 ≤ i ∧ i.toNat = h) (h1 : l ≤ h) (h2 : h ≤ c) :
    (Instr.sliceAt t (.slice A n c) lo hi none).run P w = .ok (.slice (if c = l then A else A.map (·.add (l * ie.size))) (h - l) (c - l)) w := by
  rcases hlo with ⟨rfl, rfl⟩ | ⟨kk, i, rfl, hi1, rfl⟩
  · rcases hhi with ⟨rfl, rfl⟩ | ⟨k2, j, rfl, hj1, rfl⟩
    · simp [Instr.sliceAt, Instr.slice, Instr.sliceBounds, underlying, sizeOf, typeInfo, go_sem, hd, hi0]
    · have hb := fun w => bound_ok (P := P) j k2 c .sliceAcap w hj1 (by omega)
      simp [Instr.sliceAt, Instr.slice, Instr.sliceBounds, underlying, sizeOf, typeInfo, go_sem, hd, hi0, hb]
  · have hbl := fun w => bound_ok (P := P) i kk h .sliceB w hi1 (by omega)
    rcases hhi with ⟨rfl, rfl⟩ | ⟨k2, j, rfl, hj1, rfl⟩
    · simp [Instr.sliceAt, Instr.slice, Instr.sliceBounds, underlying, sizeOf, typeInfo, go_sem, hd, hi0, hbl]
    · have hb := fun w => bound_ok (P := P) j k2 c .sliceAcap w hj1 (by omega)
      simp [Instr.sliceAt, Instr.slice, Instr.sliceBounds, underlying, sizeOf, typeInfo, go_sem, hd, hi0, hb, hbl]
      intro a
      have := a hi1
      omega

/-- A cut of frozen cells. -/
theorem cutF {H : Array Obj} {ok : Nat → Prop} {β : Nat → Option Nat} {A : Option Addr} {n c l h sz : Nat} {cells : List D} (hr : RepL H ok A 0 cells) (h1 : l ≤ h) (h2 : h ≤ n) (hn : n ≤ c) (cs : List D)
    (hcs : cs = cells.drop (l * sz) ∨ cs = (cells.drop (l * sz)).take ((h - l) * sz)) (hz : l = c → cs = []) :
    RepV H ok β (.d (.lst (h - l) cs)) (.slice (if c = l then A else A.map (·.add (l * sz))) (h - l) (c - l)) := by
  simp only [RepV, RepD]
  refine ⟨_, _, rfl, by omega, ?_⟩
  by_cases hc : c = l
  · rw [hz hc.symm]; simp [RepL]
  · rw [if_neg hc]
    have hdrop : RepL H ok (A.map (·.add (l * sz))) 0 (cells.drop (l * sz)) := by
      by_cases hne : cells.drop (l * sz) = []
      · rw [hne]; simp [RepL]
      · have : cells ≠ [] := by intro e; rw [e] at hne; simp at hne
        obtain ⟨B, o, rfl⟩ := hr.some this
        simp only [Option.map_some, add_mk]
        exact hr.drop _
    rcases hcs with rfl | rfl
    · exact hdrop
    · exact hdrop.take _

theorem ok_cut {t e : Nat} {ti te : TI} {x : Operand} {lo hi : Option Operand} {k : List Nat → V → Prop} (hT : TabOk P T) (ht : T t = some ti) (hk : ti.kind = .slice e) (he : T e = some te)
    (h : evalCut te.size (opv g x) (lo.map (opv g)) (hi.map (opv g)) k) : ∃ v, k [] v ∧ StepOk P (.slice t x lo hi none) f g m [] [] v := by
  obtain ⟨ie, e1, e2, e3⟩ := size_run hT he
  have hd := slice_desc hT ht hk
  generalize hx : opv g x = vx at h
  generalize hlo : lo.map (opv g) = vlo at h
  generalize hhi : hi.map (opv g) = vhi at h
  unfold evalCut at h
  split at h
  case h_1 n cells kk i =>
    obtain ⟨⟨h0, h1⟩, h⟩ := h
    cases lo with | some l => simp at hlo | none =>
    cases hi with | none => simp at hhi | some hh =>
    simp only [Option.map_some, Option.some.injEq] at hhi
    refine ⟨_, h, stepOk_value fun w ok β ρ dst ty pos after guard hv hb => ?_⟩
    have v1 := hv x (by simp [Op.operands]); rw [hx] at v1
    have v2 := hv hh (by simp [Op.operands]); rw [hhi, rep_int] at v2
    simp only [RepV, RepD] at v1
    obtain ⟨A, c, v1, hnc, hr⟩ := v1
    have hrun := run_cut (P := P) (A := A) (n := n) (c := c) (lo := none) (hi := some (.int kk i)) (w := w) hd e1 (.inl ⟨rfl, rfl⟩) (.inr ⟨kk, i, rfl, h0, rfl⟩) (Nat.zero_le _) (by omega)
    refine ⟨_, by simp only [execOp, v1, v2, Option.map_none, Option.map_some, run_bind, hrun]; rfl, ?_⟩
    simp only [RepV, RepD]
    refine ⟨_, _, rfl, by omega, ?_⟩
    by_cases hc : c = 0
    · have : i.toNat = 0 := by omega
      rw [this]; simp [RepL]
    · rw [if_neg hc]
      have : (A.map (·.add (0 * ie.size))) = A := by cases A <;> simp [Addr.add]
      rw [this]
      exact hr.take _
  case h_2 n cells kk i =>
    obtain ⟨⟨hl, h0, h1⟩, h⟩ := h
    cases hi with | some l => simp at hhi | none =>
    cases lo with | none => simp at hlo | some hh =>
    simp only [Option.map_some, Option.some.injEq] at hlo
    refine ⟨_, h, stepOk_value fun w ok β ρ dst ty pos after guard hv hb => ?_⟩
    have v1 := hv x (by simp [Op.operands]); rw [hx] at v1
    have v2 := hv hh (by simp [Op.operands]); rw [hlo, rep_int] at v2
    simp only [RepV, RepD] at v1
    obtain ⟨A, c, v1, hnc, hr⟩ := v1
    have hrun := run_cut (P := P) (A := A) (n := n) (c := c) (hi := none) (lo := some (.int kk i)) (w := w) hd e1 (.inr ⟨kk, i, rfl, h0, rfl⟩) (.inl ⟨rfl, rfl⟩) (by omega) hnc
    refine ⟨_, by simp only [execOp, v1, v2, Option.map_none, Option.map_some, run_bind, hrun]; rfl, ?_⟩
    rw [e2]
    exact cutF hr (by omega) (Nat.le_refl _) hnc _ (.inl rfl) (fun e => by rw [List.drop_eq_nil_iff, hl, show i.toNat = n by omega]; exact Nat.le_refl _)
  case h_3 n cells kk i k2 j =>
    obtain ⟨⟨hl, h0, h1, h2⟩, h⟩ := h
    cases hi with | none => simp at hhi | some hj =>
    cases lo with | none => simp at hlo | some hh =>
    simp only [Option.map_some, Option.some.injEq] at hlo hhi
    refine ⟨_, h, stepOk_value fun w ok β ρ dst ty pos after guard hv hb => ?_⟩
    have v1 := hv x (by simp [Op.operands]); rw [hx] at v1
    have v2 := hv hh (by simp [Op.operands]); rw [hlo, rep_int] at v2
    have v3 := hv hj (by simp [Op.operands]); rw [hhi, rep_int] at v3
    simp only [RepV, RepD] at v1
    obtain ⟨A, c, v1, hnc, hr⟩ := v1
    have hrun := run_cut (P := P) (A := A) (n := n) (c := c) (hi := some (.int k2 j)) (lo := some (.int kk i)) (w := w) hd e1 (.inr ⟨kk, i, rfl, h0, rfl⟩) (.inr ⟨k2, j, rfl, by omega, rfl⟩) (by omega) (by omega)
    refine ⟨_, by simp only [execOp, v1, v2, v3, Option.map_none, Option.map_some, run_bind, hrun]; rfl, ?_⟩
    rw [e2]
    exact cutF hr (by omega) (show j.toNat ≤ n by omega) hnc _ (.inr rfl) (fun e => by rw [show j.toNat - i.toNat = 0 by omega]; simp)
  case h_4 b off n sz' kk i =>
    obtain ⟨⟨rfl, h0, h1⟩, h⟩ := h
    cases lo with | some l => simp at hlo | none =>
    cases hi with | none => simp at hhi | some hh =>
    simp only [Option.map_some, Option.some.injEq] at hhi
    refine ⟨_, h, stepOk_value fun w ok β ρ dst ty pos after guard hv hb => ?_⟩
    have v1 := hv x (by simp [Op.operands]); rw [hx] at v1
    have v2 := hv hh (by simp [Op.operands]); rw [hhi, rep_int] at v2
    simp only [RepV] at v1
    obtain ⟨A, c, v1, hnc, hr⟩ := v1
    have hrun := run_cut (P := P) (A := A) (n := n) (c := c) (lo := none) (hi := some (.int kk i)) (w := w) hd e1 (.inl ⟨rfl, rfl⟩) (.inr ⟨kk, i, rfl, h0, rfl⟩) (Nat.zero_le _) (by omega)
    refine ⟨_, by simp only [execOp, v1, v2, Option.map_none, Option.map_some, run_bind, hrun]; rfl, ?_⟩
    simp only [RepV]
    refine ⟨_, _, rfl, by omega, ?_⟩
    have : (if c = 0 then A else A.map (·.add (0 * ie.size))) = A := by
      split
      · rfl
      · cases A <;> simp [Addr.add]
    rw [this]
    simpa using hr
  case h_5 b off n sz' kk i =>
    obtain ⟨⟨rfl, h0, h1⟩, h⟩ := h
    cases hi with | some l => simp at hhi | none =>
    cases lo with | none => simp at hlo | some hh =>
    simp only [Option.map_some, Option.some.injEq] at hlo
    refine ⟨_, h, stepOk_value fun w ok β ρ dst ty pos after guard hv hb => ?_⟩
    have v1 := hv x (by simp [Op.operands]); rw [hx] at v1
    have v2 := hv hh (by simp [Op.operands]); rw [hlo, rep_int] at v2
    simp only [RepV] at v1
    obtain ⟨A, c, v1, hnc, hr⟩ := v1
    have hrun := run_cut (P := P) (A := A) (n := n) (c := c) (hi := none) (lo := some (.int kk i)) (w := w) hd e1 (.inr ⟨kk, i, rfl, h0, rfl⟩) (.inl ⟨rfl, rfl⟩) (by omega) hnc
    refine ⟨_, by simp only [execOp, v1, v2, Option.map_none, Option.map_some, run_bind, hrun]; rfl, ?_⟩
    simp only [RepV]
    refine ⟨_, _, rfl, by omega, ?_⟩
    rcases hr with ⟨_, rfl⟩ | ⟨B, arr, TT, rfl, g1, g2, g3⟩
    · omega
    · refine .inr ⟨B, arr, TT, ?_, g1, g2, ?_⟩
      · rw [if_neg (by omega), Option.map_some, add_mk, e2]
      · have hc : c = i.toNat + (c - i.toNat) := by omega
        rw [hc, Nat.add_mul] at g3
        omega
  case h_6 b off n sz' kk i k2 j =>
    obtain ⟨⟨rfl, h0, h1, h2, h3⟩, h⟩ := h
    cases hi with | none => simp at hhi | some hj =>
    cases lo with | none => simp at hlo | some hh =>
    simp only [Option.map_some, Option.some.injEq] at hlo hhi
    refine ⟨_, h, stepOk_value fun w ok β ρ dst ty pos after guard hv hb => ?_⟩
    have v1 := hv x (by simp [Op.operands]); rw [hx] at v1
    have v2 := hv hh (by simp [Op.operands]); rw [hlo, rep_int] at v2
    have v3 := hv hj (by simp [Op.operands]); rw [hhi, rep_int] at v3
    simp only [RepV] at v1
    obtain ⟨A, c, v1, hnc, hr⟩ := v1
    have hrun := run_cut (P := P) (A := A) (n := n) (c := c) (hi := some (.int k2 j)) (lo := some (.int kk i)) (w := w) hd e1 (.inr ⟨kk, i, rfl, h0, rfl⟩) (.inr ⟨k2, j, rfl, by omega, rfl⟩) (by omega) (by omega)
    refine ⟨_, by simp only [execOp, v1, v2, v3, Option.map_none, Option.map_some, run_bind, hrun]; rfl, ?_⟩
    simp only [RepV]
    refine ⟨_, _, rfl, by omega, ?_⟩
    rcases hr with ⟨_, rfl⟩ | ⟨B, arr, TT, rfl, g1, g2, g3⟩
    · omega
    · refine .inr ⟨B, arr, TT, ?_, g1, g2, ?_⟩
      · rw [if_neg (by omega), Option.map_some, add_mk, e2]
      · have hc : c = i.toNat + (c - i.toNat) := by omega
        rw [hc, Nat.add_mul] at g3
        omega
  case h_7 => exact h.elim

end Go.Abs

set_option linter.unusedVariables false
set_option linter.unusedSimpArgs false
namespace Go.Abs
open Go

variable {P : Program} {T : Tab} {f : Nat} {g : Nat → V} {m : Nat → Option Blk}

theorem at_blk {s : St} {b : Nat} {x : Option Blk} : s.at (.b b) = .k x ↔ s.blk b = x := by simp [St.at]

theorem blk_apply (s : St) (W : List (Nat × Option Blk)) (d : Option (Nat × V)) (b : Nat) : (s.apply ⟨W, d⟩).blk b = (wval W b).getD (s.blk b) := by
  have := St.at_apply s ⟨W, d⟩ (.b b)
  simp only [St.at, Upd.at] at this
  cases e : wval W b with
  | none => rw [e] at this; simpa using this
  | some x => rw [e] at this; simpa using this

theorem get_apply_none (s : St) (W : List (Nat × Option Blk)) (t : Nat) : (s.apply ⟨W, none⟩).get t = s.get t := rfl

theorem wval_append (W W' : List (Nat × Option Blk)) (b : Nat) : wval (W ++ W') b = match wval W' b with | some x => some x | none => wval W b := by
  induction W with
  | nil => simp [wval]; cases wval W' b <;> rfl
  | cons p W ih =>
    obtain ⟨k, v⟩ := p
    simp only [List.cons_append, wval, ih]
    cases wval W' b <;> rfl

/-- Two batches of writes, one behind the other. -/
theorem apply_append (s : St) (W W' : List (Nat × Option Blk)) (d : Option (Nat × V)) (x : Loc) : (s.apply ⟨W ++ W', d⟩).at x = ((s.apply ⟨W, none⟩).apply ⟨W', d⟩).at x := by
  simp only [St.at_apply]
  cases x with
  | t n => simp [Upd.at]
  | b n =>
    simp only [Upd.at, wval_append]
    cases wval W' n <;> simp

theorem SimAt.congr {C : Ctx} {s s' : Loc → Val} {A A' : Nat → Prop} {a : Act} {w : World} {ok : Nat → Prop} {β : Nat → Option Nat} (h : SimAt C s A a w ok β) (e : ∀ x, s x = s' x) (hA : ∀ b, A b → A' b) : SimAt C s' A' a w ok β := by
  have e' : s = s' := funext e
  subst e'
  exact ⟨h.defers, h.nt, h.frame, h.env, h.mem, h.inj, fun b B hb => hA _ (h.used b B hb), fun b k hb => hA _ (h.mused b k hb), h.ltd, fun b hb => hA _ (h.lused b hb)⟩

/-- A block is frozen: nothing is done in the world. -/
theorem SimAt.freeze {C : Ctx} {u : St} {A : Nat → Prop} {a : Act} {w : World} {ok : Nat → Prop} {β : Nat → Option Nat} (h : SimAt C u.at A a w ok β) {b : Nat} {blk : Blk} (hb : u.blk b = some blk) :
    ∃ ok', SimAt C (u.apply ⟨[(b, some ⟨blk.cells, false⟩)], none⟩).at A a w ok' β ∧ (∀ k, ok k → ok' k) ∧ (∀ B, β b = some B → ok' B) := by
  have hat := h.mem b blk (by simp [St.at, hb])
  have hblk : ∀ b', (u.apply ⟨[(b, some ⟨blk.cells, false⟩)], none⟩).blk b' = if b' = b then some ⟨blk.cells, false⟩ else u.blk b' := fun b' => by
    rw [blk_apply]; simp only [wval]; by_cases e : b' = b <;> simp [e]
  rcases hat with ⟨h1, h2⟩ | ⟨B, h1, h2, h3⟩
  · refine ⟨ok, ⟨h.defers, h.nt, h.frame, fun t x hx => h.env t x (by simpa [St.at, get_apply_none] using hx), fun b' k hk => ?_, fun b1 b2 B k k' e1 e2 e3 e4 => ?_, h.used, fun b' k hk => ?_, h.ltd, h.lused⟩, fun _ h => h, fun B hB => by rw [h1] at hB; cases hB⟩
    · rw [at_blk, hblk] at hk
      split at hk
      · rename_i e; subst e; cases hk; exact .inl ⟨h1, h2⟩
      · exact h.mem b' k (by simp [St.at, hk])
    · rw [at_blk, hblk] at e1 e2
      have f1 : ∃ x, u.blk b1 = some x := by
        by_cases e : b1 = b
        · exact ⟨blk, e ▸ hb⟩
        · rw [if_neg e] at e1; exact ⟨_, e1⟩
      have f2 : ∃ x, u.blk b2 = some x := by
        by_cases e : b2 = b
        · exact ⟨blk, e ▸ hb⟩
        · rw [if_neg e] at e2; exact ⟨_, e2⟩
      obtain ⟨x, f1⟩ := f1
      obtain ⟨y, f2⟩ := f2
      exact h.inj b1 b2 B x y (by simp [St.at, f1]) (by simp [St.at, f2]) e3 e4
    · rw [at_blk, hblk] at hk
      split at hk
      · rename_i e; subst e; exact h.mused b' blk (by simp [St.at, hb])
      · exact h.mused b' k (by simp [St.at, hk])
  · have hkeep : Keeps w.heap w.heap ok (fun k => ok k ∨ k = B) := ⟨fun _ _ => rfl, fun _ h => .inl h⟩
    obtain ⟨arr, TT, g1, g2, g3, g4, g5⟩ := h2
    have hBlt : B < w.heap.size := (Array.getElem?_eq_some_iff.1 g1).1
    refine ⟨fun k => ok k ∨ k = B, ⟨h.defers, h.nt, ⟨h.frame.os, h.frame.tape, h.frame.output, h.frame.size, h.frame.keep, fun k hk => .inl (h.frame.lo k hk), fun k hk => ?_, fun k hk => ?_, h.frame.shape⟩, fun t x hx => ?_, fun b' k hk => ?_, fun b1 b2 B k k' e1 e2 e3 e4 => ?_, h.used, fun b' k hk => ?_, h.ltd, h.lused⟩, fun _ h => .inl h, fun B' hB => by rw [h1] at hB; cases hB; exact .inr rfl⟩
    · rcases hk with hk | rfl
      · exact h.frame.hi k hk
      · rcases h3 with h3 | h3
        · exact .inr (.inl h3)
        · exact .inr (.inr h3)
    · rcases hk with hk | rfl
      · exact h.frame.lt k hk
      · exact hBlt
    · exact RepV.keep hkeep (Shape.refl _) (fun _ _ h => h) _ _ (h.env t x (by simpa [St.at, get_apply_none] using hx))
    · rw [at_blk, hblk] at hk
      split at hk
      · rename_i e; subst e; cases hk
        exact .inr ⟨B, h1, ⟨arr, TT, g1, g2, g3.keep hkeep, by simp, fun _ => .inr rfl⟩, h3⟩
      · rename_i e
        rcases h.mem b' k (by simp [St.at, hk]) with h4 | ⟨B', h4, ⟨arr', TT', k1, k2, k3, k4, k5⟩, h6⟩
        · exact .inl h4
        · refine .inr ⟨B', h4, ⟨arr', TT', k1, k2, k3.keep hkeep, fun hl => ?_, fun hl => .inl (k5 hl)⟩, h6⟩
          rintro (h7 | rfl)
          · exact k4 hl h7
          · exact e (h.inj b' b B' k blk (by simp [St.at, hk]) (by simp [St.at, hb]) h4 h1)
    · rw [at_blk, hblk] at e1 e2
      have f1 : ∃ x, u.blk b1 = some x := by
        by_cases e : b1 = b
        · exact ⟨blk, e ▸ hb⟩
        · rw [if_neg e] at e1; exact ⟨_, e1⟩
      have f2 : ∃ x, u.blk b2 = some x := by
        by_cases e : b2 = b
        · exact ⟨blk, e ▸ hb⟩
        · rw [if_neg e] at e2; exact ⟨_, e2⟩
      obtain ⟨x, f1⟩ := f1
      obtain ⟨y, f2⟩ := f2
      exact h.inj b1 b2 B x y (by simp [St.at, f1]) (by simp [St.at, f2]) e3 e4
    · rw [at_blk, hblk] at hk
      split at hk
      · rename_i e; subst e; exact h.mused b' blk (by simp [St.at, hb])
      · exact h.mused b' k (by simp [St.at, hk])

/-- What a frozen slice of the call's own reads. -/
theorem own_frozen {H : Array Obj} {ok : Nat → Prop} {β : Nat → Option Nat} {b off n sz : Nat} {blk : Blk} {v : Value} (h : RepV H ok β (.own b off n sz) v) (hb : BlkOk H ok β b blk) (hok : ∀ B, β b = some B → ok B) :
    RepD H ok (.lst n ((blk.cells.drop off).take (n * sz))) v := by
  simp only [RepV] at h
  simp only [RepD]
  obtain ⟨A, c, rfl, hn, hr⟩ := h
  refine ⟨A, c, rfl, hn, ?_⟩
  rcases hr with ⟨rfl, rfl⟩ | ⟨B, arr, TT, rfl, hB, hh, hs⟩
  · have : n = 0 := by omega
    subst this; simp [RepL]
  · rcases hb with ⟨h1, _⟩ | ⟨B', h1, arr', TT', k1, k2, k3, _⟩
    · rw [hB] at h1; cases h1
    · rw [hB] at h1; cases h1
      refine .ofC fun i d hd => ⟨hok B hB, ?_⟩
      rw [List.getElem?_take] at hd
      split at hd
      · rw [List.getElem?_drop] at hd
        obtain ⟨u, hu, r⟩ := k3 _ d hd
        rw [Nat.zero_add] at hu
        exact ⟨u, ⟨arr', TT', _, k1, hu⟩, r⟩
      · cases hd

def Marks (m : Nat → Option Blk) (W : List (Nat × Option Blk)) : Prop := ∀ p ∈ W, ∃ blk, m p.1 = some blk ∧ p.2 = some ⟨blk.cells, false⟩

def SameC (x y : Option Blk) : Prop := x.map (·.cells) = y.map (·.cells)

/-- A value, frozen. -/
def FrzOk (m : Nat → Option Blk) (v : V) (R : List Nat) (W : List (Nat × Option Blk)) (xs : List D) : Prop :=
  Marks m W ∧ (∀ p ∈ W, p.1 ∈ R) ∧ ∀ (C : Ctx) (u : St) (A : Nat → Prop) (a : Act) (w : World) (ok : Nat → Prop) (β : Nat → Option Nat) (val : Value),
    SimAt C u.at A a w ok β → (∀ b ∈ R, SameC (u.blk b) (m b)) → RepV w.heap ok β v val →
    ∃ ok', SimAt C (u.apply ⟨W, none⟩).at A a w ok' β ∧ (∀ k, ok k → ok' k) ∧ val.cells.size = xs.length ∧ RepC w.heap ok' xs val.cells 0

theorem RepD.cells {H : Array Obj} {ok : Nat → Prop} {d : D} {v : Value} (h : RepD H ok d v) : v.cells = #[v] := by
  have := h.plain
  cases v <;> first | rfl | exact absurd rfl (this.1 _)

theorem repC_one {H : Array Obj} {ok : Nat → Prop} {d : D} {v : Value} (h : RepD H ok d v) : v.cells.size = [d].length ∧ RepC H ok [d] v.cells 0 := by
  rw [h.cells]
  refine ⟨rfl, fun i x hx => ?_⟩
  cases i with
  | zero => simp at hx; subst hx; exact ⟨v, rfl, h⟩
  | succ i => simp at hx

theorem apply_nil (u : St) (x : Loc) : u.at x = (u.apply ⟨[], none⟩).at x := by
  rw [St.at_apply]; cases x <;> simp [Upd.at, wval]

theorem frz_ok {v : V} {k : List Nat → List (Nat × Option Blk) → List D → Prop} (h : frz m v k) : ∃ R W xs, k R W xs ∧ FrzOk m v R W xs := by
  unfold frz at h
  split at h
  · rename_i x
    refine ⟨[], [], _, h, by intro p hp; simp at hp, by simp, fun C u A a w ok β val hS _ hv => ⟨ok, hS.congr (apply_nil u) (fun _ h => h), fun _ h => h, ?_⟩⟩
    simp only [RepV] at hv
    exact repC_one hv
  · rename_i cs
    refine ⟨[], [], _, h, by intro p hp; simp at hp, by simp, fun C u A a w ok β val hS _ hv => ⟨ok, hS.congr (apply_nil u) (fun _ h => h), fun _ h => h, ?_⟩⟩
    simp only [RepV] at hv
    obtain ⟨arr, rfl, h1, h2⟩ := hv
    exact ⟨h1, h2⟩
  · refine ⟨[], [], _, h, by intro p hp; simp at hp, by simp, fun C u A a w ok β val hS _ hv => ⟨ok, hS.congr (apply_nil u) (fun _ h => h), fun _ h => h, ?_⟩⟩
    simp only [RepV] at hv
    subst hv
    exact repC_one (d := .lst 0 []) (by simp [RepD, RepL])
  · rename_i b off n sz
    split at h
    · rename_i blk hb
      refine ⟨_, _, _, h, by intro p hp; simp at hp; subst hp; exact ⟨blk, hb, rfl⟩, by simp, fun C u A a w ok β val hS hR hv => ?_⟩
      have hc := hR b (by simp)
      unfold SameC at hc
      rw [hb] at hc
      cases hu : u.blk b with
      | none => rw [hu] at hc; simp at hc
      | some blk' =>
        rw [hu] at hc; simp at hc
        obtain ⟨ok', h1, h2, h3⟩ := hS.freeze hu
        rw [hc] at h1
        refine ⟨ok', h1, h2, ?_⟩
        have hv' := RepV.keep (H' := w.heap) (ok' := ok') (β' := β) ⟨fun _ _ => rfl, h2⟩ (Shape.refl _) (fun _ _ h => h) _ _ hv
        have hbk : BlkOk w.heap ok' β b ⟨blk.cells, false⟩ := by
          rcases h1.mem b ⟨blk.cells, false⟩ (by rw [at_blk, blk_apply]; simp [wval]) with h | ⟨B, h, h', _⟩
          · exact .inl h
          · exact .inr ⟨B, h, h'⟩
        exact repC_one (own_frozen (blk := ⟨blk.cells, false⟩) hv' hbk h3)
    · exact h.elim
  · exact h.elim

end Go.Abs

set_option linter.unusedVariables false
set_option linter.unusedSimpArgs false
namespace Go.Abs
open Go

variable {P : Program} {T : Tab} {f : Nat} {g : Nat → V} {m : Nat → Option Blk}

theorem push_lt {w : World} {o : Obj} {k : Nat} (h : k < w.heap.size) : (w.heap.push o)[k]? = w.heap[k]? := by
  rw [Array.getElem?_push, if_neg (by omega)]

theorem push_new {w : World} {o : Obj} : (w.heap.push o)[w.heap.size]? = some o := by simp

theorem keeps_push {w : World} {o : Obj} {ok : Nat → Prop} (h : ∀ k, ok k → k < w.heap.size) : Keeps w.heap (w.heap.push o) ok ok := ⟨fun k hk => push_lt (h k hk), fun _ h => h⟩

theorem shape_push {w : World} {o : Obj} : Shape w.heap (w.heap.push o) := ⟨fun B arr TT h => ⟨arr, by rw [push_lt (Array.getElem?_eq_some_iff.1 h).1]; exact h, rfl⟩⟩

def updβ (β : Nat → Option Nat) (f B : Nat) : Nat → Option Nat := fun b => if b = f then some B else β b

theorem Frame.push {C : Ctx} {w : World} {ok : Nat → Prop} (h : Frame C w ok) (o : Obj) (n : Nat) : Frame C { w with heap := w.heap.push o, drawn := n } ok :=
  ⟨h.os, h.tape, h.output, by have := h.size; simp; omega, fun k hk hl => by show (w.heap.push o)[k]? = _; rw [push_lt (by have := h.size; omega)]; exact h.keep k hk hl, h.lo, h.hi, fun k hk => by have := h.lt k hk; simp; omega, h.shape.trans shape_push⟩

/-- A new block of the call's own. -/
theorem SimAt.alloc {C : Ctx} {u : St} {A : Nat → Prop} {a : Act} {w : World} {ok : Nat → Prop} {β : Nat → Option Nat} (h : SimAt C u.at A a w ok β) (hf : ¬ A f) {dst : Option Nat} (hd : dst.getD 0 < C.nt)
    {cells : List D} {arr : Array Value} {TT : TypeId} (hl : cells.length ≤ arr.size) (hr : RepC w.heap ok cells arr 0) {v : V} {r : Value} (n : Nat) (W0 : List (Nat × Option Blk)) (hW0 : ∀ p ∈ W0, p.2 = none)
    (hv : dst ≠ none → RepV (w.heap.push (.cells arr TT (0, 0))) ok (updβ β f w.heap.size) v r) :
    SimAt C (u.apply ⟨W0 ++ [(f, some ⟨cells, true⟩)], dst.map (·, v)⟩).at (fun b => A b ∨ b = f) (a.put dst r) { w with heap := w.heap.push (.cells arr TT (0, 0)), drawn := n } ok (updβ β f w.heap.size) := by
  obtain ⟨f1, f2⟩ := h.fresh hf
  have hk := keeps_push (o := .cells arr TT (0, 0)) h.frame.lt
  have hext : ∀ b B, β b = some B → updβ β f w.heap.size b = some B := fun b B hb => by
    unfold updβ; rw [if_neg]; · exact hb
    intro e; subst e; rw [f2] at hb; cases hb
  have hwv : ∀ b, wval (W0 ++ [(f, some ⟨cells, true⟩)]) b = if b = f then some (some ⟨cells, true⟩) else wval W0 b := fun b => by
    rw [wval_append]; simp only [wval]; by_cases e : b = f <;> simp [e]
  have hnone : ∀ b k, wval W0 b ≠ some (some k) := fun b k e => by have := hW0 _ (wval_mem e); simp at this
  refine h.step hf (by rw [h.nt]; exact hd) (h.frame.push _ n) hk shape_push hext (fun b B hb => ?_) hv (fun b k e => ?_) (fun b k B e e2 e3 e4 => ?_) f1 (fun b b' B h1 h1' h2 h2' e1 e2 => ?_)
  · unfold updβ at hb; split at hb
    · rename_i e; exact .inr e
    · exact .inl hb
  · rw [hwv] at e
    split at e
    · rename_i e'; subst e'; simp at e; subst e
      refine ⟨.inr rfl, .inr ⟨w.heap.size, by simp [updβ], ⟨arr, TT, push_new, hl, hr.keep hk, fun _ hok => ?_, by simp⟩, .inr h.frame.size⟩⟩
      have := h.frame.lt _ hok; omega
    · exact absurd e (hnone b k)
  · obtain ⟨arr', TT', g1, g2, g3, g4, g5⟩ := e4
    exact ⟨arr', TT', by show (w.heap.push _)[B]? = _; rw [push_lt (Array.getElem?_eq_some_iff.1 g1).1]; exact g1, g2, g3.keep hk, g4, g5⟩
  · have key : ∀ b, (wval (W0 ++ [(f, some ⟨cells, true⟩)]) b = none → u.blk b ≠ none) → wval (W0 ++ [(f, some ⟨cells, true⟩)]) b ≠ some none → b = f ∨ ∃ x, u.blk b = some x ∧ b ≠ f := fun b h1 h2 => by
      rw [hwv] at h1 h2
      by_cases e : b = f
      · exact .inl e
      · rw [if_neg e] at h1 h2
        right
        cases e3 : wval W0 b with
        | none => have := h1 e3; cases e4 : u.blk b with
          | none => exact absurd e4 this
          | some x => exact ⟨x, rfl, e⟩
        | some x => cases x with
          | none => exact absurd e3 h2
          | some k => exact absurd e3 (hnone b k)
    have hβ : ∀ b, b ≠ f → updβ β f w.heap.size b = β b := fun b hb => by simp [updβ, hb]
    have hold : ∀ b x B, u.blk b = some x → β b = some B → B < w.heap.size := fun b x B hx hB => by
      rcases h.mem b x (by simp [St.at, hx]) with ⟨h3, _⟩ | ⟨B', h3, ⟨arr', TT', g1, _⟩, _⟩
      · rw [hB] at h3; cases h3
      · rw [hB] at h3; cases h3; exact (Array.getElem?_eq_some_iff.1 g1).1
    rcases key b h1 h1' with rfl | ⟨x, hx, hxf⟩
    · rcases key b' h2 h2' with rfl | ⟨y, hy, hyf⟩
      · rfl
      · rw [hβ b' hyf] at e2
        simp [updβ] at e1
        have := hold b' y B hy e2; omega
    · rw [hβ b hxf] at e1
      rcases key b' h2 h2' with rfl | ⟨y, hy, hyf⟩
      · simp [updβ] at e2
        have := hold b x B hx e1; omega
      · rw [hβ b' hyf] at e2
        exact h.inj b b' B x y (by simp [St.at, hx]) (by simp [St.at, hy]) e1 e2

theorem zeroD_rep {H : Array Obj} {ok : Nat → Prop} {d : D} (h : zeroD d = true) : RepD H ok d (zval d) := by
  cases d with
  | int k n => simp [RepD, zval]
  | bool b => simp [RepD, zval]
  | lst n cells =>
    simp [zeroD] at h
    obtain ⟨rfl, rfl⟩ := h
    simp only [zval, RepD]
    exact ⟨none, 0, rfl, Nat.le_refl _, by simp [RepL]⟩

theorem zero_rep {H : Array Obj} {ok : Nat → Prop} {zs : List D} (h : zs.all zeroD = true) : RepC H ok zs (zs.map zval).toArray 0 := fun i d hd => by
  refine ⟨zval d, by simp [hd], zeroD_rep ?_⟩
  rw [List.all_eq_true] at h
  exact h d (List.mem_of_getElem? hd)

theorem ok_alloc {t : Nat} {ti : TI} (hT : TabOk P T) (ht : T t = some ti) : StepOk P (.alloc t) f g m [] [(f, some ⟨ti.zero, true⟩)] (.ptr f 0) := by
  intro C u A a w o Q hC ho hS hg hm hA hd
  obtain ⟨ok, β, hS⟩ := hS
  obtain ⟨dst, op', ty, pos, after, guard⟩ := o
  simp only at ho; subst ho
  obtain ⟨i, z, e1, e2, e3, e4, e5, e6, e7, _⟩ := hT.info t ti ht
  have hrun : (execOp a.eval ⟨dst, .alloc t, ty, pos, after, guard⟩).run P w = .ok (.value (.pointer (some ⟨w.heap.size, 0, none⟩))) { w with heap := w.heap.push (.cells z.cells t (0, 0)) } := by
    simp [execOp, Instr.alloc, zeroValue, typeInfo, go_sem, e1, e4, newVar, newRow, newObj]
    rfl
  unfold Oper.wp
  rw [hrun]
  simp only [Oper.upon]
  refine ⟨ok, _, hS.alloc hA hd (cells := ti.zero) (by rw [e5]; simp) (by rw [e5]; exact zero_rep e7) w.drawn [] (by simp) (fun _ => ?_)⟩
  simp only [RepV]
  exact ⟨w.heap.size, by simp [updβ], rfl⟩

theorem ok_box {t : Nat} {x : Operand} {k : List Nat → List (Nat × Option Blk) → V → Prop} (h : frz m (opv g x) fun R W cs => k R (W ++ [(f, some ⟨cs, true⟩)]) (.ptr f 0)) :
    ∃ R W v, k R W v ∧ StepOk P (.box t x) f g m R W v := by
  obtain ⟨R, W, xs, hk, hM, hMR, hF⟩ := frz_ok h
  refine ⟨R, _, _, hk, ?_⟩
  intro C u A a w o Q hC ho hS hg hm hA hd
  obtain ⟨ok, β, hS⟩ := hS
  obtain ⟨dst, op', ty, pos, after, guard⟩ := o
  simp only at ho; subst ho
  have hv := hS.opv (g := g) (x := x) (fun t e => hg t (by subst e; simp [Op.operands]))
  obtain ⟨ok', hS', hlo, hsz, hrc⟩ := hF C u A a w ok β _ hS (fun b hb => by rw [hm b hb]; rfl) hv
  have hrun : (execOp a.eval ⟨dst, .box t x, ty, pos, after, guard⟩).run P w = .ok (.value (.pointer (some ⟨w.heap.size, 0, none⟩))) { w with heap := w.heap.push (.cells (a.eval x).cells t (0, 0)) } := by
    generalize a.eval = ρ
    simp [execOp, Instr.box, go_sem, newVar, newRow, newObj]
    rfl
  unfold Oper.wp
  rw [hrun]
  simp only [Oper.upon]
  refine ⟨ok', _, (hS'.alloc hA hd (cells := xs) (v := .ptr f 0) (by omega) hrc w.drawn [] (by simp) (fun _ => ?_)).congr (fun x => ?_) (fun _ h => h)⟩
  · simp only [RepV]
    exact ⟨w.heap.size, by simp [updβ], rfl⟩
  · rw [List.nil_append]; exact (apply_append _ _ _ _ x).symm

end Go.Abs

set_option linter.unusedVariables false
set_option linter.unusedSimpArgs false
namespace Go.Abs
open Go

variable {P : Program} {T : Tab} {f : Nat} {g : Nat → V} {m : Nat → Option Blk}

theorem setCells_length : ∀ (xs : List D) (cells : List D) (off : Nat), (setCells cells off xs).length = cells.length
  | [], cells, off => rfl
  | x :: xs, cells, off => by simp [setCells, setCells_length xs]

theorem repC_setCells {H : Array Obj} {ok : Nat → Prop} : ∀ (xs : List D) (vs : List Value) (cells : List D) (arr : Array Value) (o off : Nat), RepC H ok cells arr o → vs.length = xs.length →
    (∀ (i : Nat) (d : D), xs[i]? = some d → ∃ u, vs[i]? = some u ∧ RepD H ok d u) → o + off + xs.length ≤ arr.size → RepC H ok (setCells cells off xs) (setVals arr (o + off) vs) o
  | [], [], cells, arr, o, off, h, _, _, _ => h
  | [], v :: vs, _, _, _, _, _, h, _, _ => by simp at h
  | x :: xs, [], _, _, _, _, _, h, _, _ => by simp at h
  | x :: xs, v :: vs, cells, arr, o, off, h, hl, hx, hb => by
    simp only [setCells, setVals]
    rw [Nat.add_assoc]
    refine repC_setCells xs vs _ _ o (off + 1) ?_ (by simpa using hl) (fun i d hd => ?_) (by simp at hb ⊢; omega)
    · intro i d hd
      rw [List.getElem?_set] at hd
      by_cases e : off = i
      · subst e
        simp at hd
        obtain ⟨_, rfl⟩ := hd
        obtain ⟨u, h1, h2⟩ := hx 0 x (by simp)
        simp at h1
        subst h1
        exact ⟨v, by rw [Array.getElem?_setIfInBounds_self]; rw [if_pos (by simp at hb; omega)], h2⟩
      · rw [if_neg e] at hd
        obtain ⟨u, h1, h2⟩ := h i d hd
        exact ⟨u, by rw [Array.getElem?_setIfInBounds_ne (by omega)]; exact h1, h2⟩
    · obtain ⟨u, h1, h2⟩ := hx (i + 1) d (by simpa using hd)
      exact ⟨u, by simpa using h1, h2⟩

theorem foldl_setVals : ∀ (l : List Value) (o j : Nat) (cs : Array Value), (l.zipIdx j).foldl (fun cs (x : Value × Nat) => cs.setIfInBounds (o + x.2) x.1) cs = setVals cs (o + j) l
  | [], o, j, cs => rfl
  | v :: l, o, j, cs => by
    simp only [List.zipIdx_cons, List.foldl_cons, setVals]
    rw [foldl_setVals l o (j + 1)]
    rfl

theorem fill_cons {place : Nat → Option (Nat × Nat)} {cells : Array Value} {i : Nat} {v : Value} {rest : List (Nat × Value)} {off size : Nat} (h : place i = some (off, size)) (h1 : v.cells.size = size) (h2 : off + size ≤ cells.size) :
    Instr.fill place cells ((i, v) :: rest) = Instr.fill place (setVals cells off v.cells.toList) rest := by
  simp only [Instr.fill, h]
  rw [if_neg (by simp [h1]; omega)]
  congr 1
  rw [← Array.foldl_toList]
  have := foldl_setVals v.cells.toList off 0 cells
  simp only [Nat.add_zero] at this
  rw [← this]
  simp

theorem SameC.of_marks {m : Nat → Option Blk} {W : List (Nat × Option Blk)} {u : St} {b : Nat} (hW : Marks m W) (h : SameC (u.blk b) (m b)) (d : Option (Nat × V)) : SameC ((u.apply ⟨W, d⟩).blk b) (m b) := by
  rw [blk_apply]
  cases e : wval W b with
  | none => exact h
  | some x =>
    obtain ⟨blk, h1, h2⟩ := hW _ (wval_mem e)
    simp only at h1 h2
    subst h2
    rw [h1]
    simp [SameC]

/-- The parts of a literal. -/
def FillOk (m : Nat → Option Blk) (g : Nat → V) (place : Nat → Option (Nat × Nat)) (parts : List (Nat × Operand)) (cells : List D) (R : List Nat) (W : List (Nat × Option Blk)) (cs : List D) : Prop :=
  Marks m W ∧ (∀ p ∈ W, p.1 ∈ R) ∧ cs.length = cells.length ∧ ∀ (C : Ctx) (u : St) (A : Nat → Prop) (a : Act) (w : World) (ok : Nat → Prop) (β : Nat → Option Nat) (ρ : Operand → Value) (arr : Array Value),
    SimAt C u.at A a w ok β → (∀ b ∈ R, SameC (u.blk b) (m b)) → (∀ p ∈ parts, RepV w.heap ok β (opv g p.2) (ρ p.2)) → RepC w.heap ok cells arr 0 → arr.size = cells.length →
    ∃ ok' arr', SimAt C (u.apply ⟨W, none⟩).at A a w ok' β ∧ (∀ k, ok k → ok' k) ∧ Instr.fill place arr (parts.map fun p => (p.1, ρ p.2)) = some arr' ∧ RepC w.heap ok' cs arr' 0 ∧ arr'.size = cs.length

theorem Marks.append {m : Nat → Option Blk} {W W' : List (Nat × Option Blk)} (h : Marks m W) (h' : Marks m W') : Marks m (W ++ W') := fun p hp => by
  rcases List.mem_append.1 hp with hp | hp
  · exact h p hp
  · exact h' p hp

theorem fill_ok {place : Nat → Option (Nat × Nat)} : ∀ (parts : List (Nat × Operand)) (cells : List D) (k : List Nat → List (Nat × Option Blk) → List D → Prop), fillD m g place parts cells k →
    ∃ R W cs, k R W cs ∧ FillOk m g place parts cells R W cs
  | [], cells, k, h => ⟨[], [], cells, h, by intro p hp; simp at hp, by simp, rfl, fun C u A a w ok β ρ arr hS _ _ hr hs => ⟨ok, arr, hS.congr (apply_nil u) (fun _ h => h), fun _ h => h, rfl, hr, hs⟩⟩
  | (i, x) :: rest, cells, k, h => by
    simp only [fillD] at h
    split at h
    · exact h.elim
    · rename_i off size hp
      obtain ⟨R, W, xs, ⟨⟨hl, hb⟩, h⟩, hM, hMR, hF⟩ := frz_ok h
      obtain ⟨R', W', cs, hk, hM', hMR', hlen, hF'⟩ := fill_ok rest _ _ h
      refine ⟨_, _, _, hk, hM.append hM', fun p hp => ?_, by rw [hlen, setCells_length], fun C u A a w ok β ρ arr hS hR hv hr hs => ?_⟩
      · rcases List.mem_append.1 hp with hp | hp
        · exact List.mem_append_left _ (hMR p hp)
        · exact List.mem_append_right _ (hMR' p hp)
      · obtain ⟨ok1, hS1, hlo1, hsz, hrc⟩ := hF C u A a w ok β _ hS (fun b hb => hR b (List.mem_append_left _ hb)) (hv (i, x) (by simp))
        have hk1 : Keeps w.heap w.heap ok ok1 := ⟨fun _ _ => rfl, hlo1⟩
        have hset := repC_setCells xs (ρ x).cells.toList cells arr 0 off (hr.keep hk1) (by simpa using hsz) (fun i d hd => by
          obtain ⟨u, e, r⟩ := hrc i d hd
          exact ⟨u, by simpa using e, r⟩) (by rw [hs, hl]; omega)
        rw [Nat.zero_add] at hset
        obtain ⟨ok2, arr2, hS2, hlo2, hfill, hrc2, hs2⟩ := hF' C _ A a w ok1 β ρ (setVals arr off (ρ x).cells.toList) hS1 (fun b hb => (hR b (List.mem_append_right _ hb)).of_marks hM none)
          (fun p hp => RepV.keep hk1 (Shape.refl _) (fun _ _ h => h) _ _ (hv p (by simp [hp]))) hset (by rw [setVals_size, setCells_length, hs])
        refine ⟨ok2, arr2, hS2.congr (fun x => (apply_append _ _ _ _ x).symm) (fun _ h => h), fun k hk => hlo2 k (hlo1 k hk), ?_, hrc2, hs2⟩
        rw [List.map_cons, fill_cons hp (by rw [hsz]; exact hl) (by rw [hs]; exact hb)]
        exact hfill

theorem places_run {w : World} : ∀ (fs : List Field) (offs : List (Nat × Nat)), fs.length = offs.length → (∀ (j o sz : Nat), offs[j]? = some (o, sz) → ∃ (fd : Field) (i : TypeInfo), fs[j]? = some fd ∧ fd.offset = o ∧ P.info? fd.type = some i ∧ i.size = sz) →
    (fs.mapM (fun f => do pure (f.offset, ← sizeOf f.type) : Field → Sem (Nat × Nat))).run P w = .ok offs w
  | [], [], _, _ => by simp [go_sem]
  | [], _ :: _, h, _ => by simp at h
  | _ :: _, [], h, _ => by simp at h
  | fd :: fs, (o, sz) :: offs, hl, h => by
    obtain ⟨fd', i, e1, e2, e3, e4⟩ := h 0 o sz (by simp)
    simp at e1; subst e1
    rw [List.mapM_cons]
    have ih := places_run (w := w) fs offs (by simpa using hl) (fun j o sz hj => by
      obtain ⟨a, b, c⟩ := h (j + 1) o sz (by simpa using hj)
      exact ⟨a, b, by simpa using c⟩)
    have hF : (do pure (fd.offset, ← sizeOf fd.type) : Sem (Nat × Nat)).run P w = .ok (o, sz) w := by simp [sizeOf, typeInfo, go_sem, e3, e2, e4]
    rw [run_bind, hF]
    simp only
    rw [run_bind, ih]
    rfl

end Go.Abs

set_option linter.unusedVariables false
set_option linter.unusedSimpArgs false
namespace Go.Abs
open Go

variable {P : Program} {T : Tab} {f : Nat} {g : Nat → V} {m : Nat → Option Blk}

/-- A step that freezes, and leaves a value in the same world. -/
theorem frozen_value {C : Ctx} {u : St} {A : Nat → Prop} {a : Act} {w : World} {ok : Nat → Prop} {β : Nat → Option Nat} {W : List (Nat × Option Blk)} {dst : Option Nat} {v : V} {r : Value}
    (h : SimAt C (u.apply ⟨W, none⟩).at A a w ok β) (hA : ¬ A f) (hd : dst.getD 0 < C.nt) (hr : RepV w.heap ok β v r) :
    SimA C (u.apply ⟨W, dst.map (·, v)⟩) (fun b => A b ∨ b = f) (a.put dst r) w := by
  refine (h.value hA hd hr).congr (fun x => ?_) (fun _ h => h)
  have := apply_append u W [] (dst.map (·, v)) x
  rw [List.append_nil] at this
  exact this.symm

theorem ok_build {t : Nat} {ti : TI} {parts : Array (Nat × Operand)} {k : List Nat → List (Nat × Option Blk) → V → Prop} (hT : TabOk P T) (ht : T t = some ti) {place : Nat → Option (Nat × Nat)}
    (hp : (∃ offs, ti.kind = .struct offs ∧ place = fun i => offs[i]?) ∨ ∃ n e te, ti.kind = .array n e ∧ T e = some te ∧ place = fun i => some (i * te.size, te.size))
    (h : fillD m g place parts.toList ti.zero fun R W cs => k R W (.agg cs)) :
    ∃ R W v, k R W v ∧ StepOk P (.build t parts) f g m R W v := by
  obtain ⟨R, W, cs, hk, hM, hMR, hlen, hF⟩ := fill_ok parts.toList ti.zero _ h
  refine ⟨R, W, _, hk, ?_⟩
  intro C u A a w o Q hC ho hS hg hm hA hd
  obtain ⟨ok, β, hS⟩ := hS
  obtain ⟨dst, op', ty, pos, after, guard⟩ := o
  simp only at ho; subst ho
  obtain ⟨i, z, e1, e2, e3, e4, e5, e6, e7, _⟩ := hT.info t ti ht
  obtain ⟨ok', arr', hS', hlo, hfill, hrc, hsz⟩ := hF C u A a w ok β a.eval z.cells hS (fun b hb => by rw [hm b hb]; rfl)
    (fun p hp => hS.opv (fun t e => hg t (by simp only [Op.operands]; rw [← e]; simp; exact ⟨p.1, by simpa using hp⟩)))
    (by rw [e5]; exact zero_rep e7) (by rw [e5]; simp)
  have hmap : ((parts.map fun (x : Nat × Operand) => (x.1, a.eval x.2)).toList) = parts.toList.map fun p => (p.1, a.eval p.2) := by simp
  have hrun : (execOp a.eval ⟨dst, .build t parts, ty, pos, after, guard⟩).run P w = .ok (.value (.agg arr')) w := by
    have hz : (zeroValue t).run P w = .ok z w := by simp [zeroValue, typeInfo, go_sem, e1, e4]
    rcases hp with ⟨offs, hko, rfl⟩ | ⟨n, e, te, hko, hte, rfl⟩
    · have hdsc := hT.desc t ti ht
      rw [hko] at hdsc
      obtain ⟨fs, h1, h2, h3⟩ := hdsc
      have hu : (underlying t).run P w = .ok (.struct fs) w := by simp [underlying, go_sem, h1]
      have hpl : (fs.mapM (fun (fd : Field) => (do pure (fd.offset, ← sizeOf fd.type) : Sem (Nat × Nat)))).run P w = .ok offs.toArray w := by
        rw [Array.mapM_eq_mapM_toList]
        have := places_run (P := P) (w := w) fs.toList offs (by simpa using h2) (fun j o sz hj => by
          obtain ⟨a, b, c1, c2, c3, c4, _⟩ := h3 j o sz hj
          exact ⟨a, b, by simpa using c1, c2, c3, c4⟩)
        rw [show (List.toArray <$> List.mapM (fun (fd : Field) => (do pure (fd.offset, ← sizeOf fd.type) : Sem (Nat × Nat))) fs.toList) = (List.mapM (fun (fd : Field) => (do pure (fd.offset, ← sizeOf fd.type) : Sem (Nat × Nat))) fs.toList >>= fun x => pure x.toArray) from by simp]
        rw [run_bind, this]
        rfl
      simp only [execOp, Instr.build]
      rw [run_bind, run_bind, hz]
      simp only
      rw [run_bind, hu]
      simp only
      rw [run_bind, hpl]
      simp only [hmap]
      have hfill' : Instr.fill (fun x => offs.toArray[x]?) z.cells (parts.toList.map fun p => (p.1, a.eval p.2)) = some arr' := by
        rw [← hfill]; congr 1; funext x; simp
      rw [hfill']
      rfl
    · have hdsc := hT.desc t ti ht
      rw [hko] at hdsc
      simp only at hdsc
      obtain ⟨ie, f1, f2, _⟩ := size_run hT hte
      have hu : (underlying t).run P w = .ok (.array n e) w := by simp [underlying, go_sem, hdsc]
      have hse : (sizeOf e).run P w = .ok te.size w := by simp [sizeOf, typeInfo, go_sem, f1, f2]
      simp only [execOp, Instr.build]
      rw [run_bind, run_bind, hz]
      simp only
      rw [run_bind, hu]
      simp only
      rw [run_bind, hse]
      simp only [hmap]
      rw [hfill]
      rfl
  unfold Oper.wp
  rw [← hC] at hrun
  subst hC
  rw [hrun]
  simp only [Oper.upon]
  exact frozen_value hS' hA hd (by simp only [RepV]; exact ⟨arr', rfl, hsz, hrc⟩)

theorem SimAt.allocF {C : Ctx} {u : St} {A : Nat → Prop} {a : Act} {w : World} {ok : Nat → Prop} {β : Nat → Option Nat} (h : SimAt C u.at A a w ok β) (hA : ¬ A f) {dst : Option Nat} (hd : dst.getD 0 < C.nt)
    {arr : Array Value} {TT : TypeId} {v : V} {r : Value} (n : Nat)
    (hv : RepV (w.heap.push (.cells arr TT (0, 0))) (fun k => ok k ∨ k = w.heap.size) β v r) :
    SimA C (u.apply ⟨[], dst.map (·, v)⟩) (fun b => A b ∨ b = f) (a.put dst r) { w with heap := w.heap.push (.cells arr TT (0, 0)), drawn := n } := by
  obtain ⟨f1, f2⟩ := h.fresh hA
  have hk : Keeps w.heap (w.heap.push (.cells arr TT (0, 0))) ok (fun k => ok k ∨ k = w.heap.size) := ⟨fun k hk => push_lt (h.frame.lt k hk), fun _ h => .inl h⟩
  have hfr := h.frame.push (.cells arr TT (0, 0)) n
  refine ⟨fun k => ok k ∨ k = w.heap.size, β, h.step hA (by rw [h.nt]; exact hd) ⟨hfr.os, hfr.tape, hfr.output, hfr.size, hfr.keep, fun k hk => .inl (hfr.lo k hk), fun k hk => ?_, fun k hk => ?_, hfr.shape⟩ hk shape_push (fun _ _ h => h) (fun _ _ h => .inl h) (fun _ => hv) (fun b k e => by simp [wval] at e) (fun b k B _ e2 e3 e4 => ?_) f1 ?_⟩
  · rcases hk with hk | rfl
    · exact hfr.hi k hk
    · exact .inr (.inr h.frame.size)
  · rcases hk with hk | rfl
    · exact hfr.lt k hk
    · simp
  · obtain ⟨arr', TT', g1, g2, g3, g4, g5⟩ := e4
    have hlt := (Array.getElem?_eq_some_iff.1 g1).1
    refine ⟨arr', TT', by show (w.heap.push _)[B]? = _; rw [push_lt hlt]; exact g1, g2, g3.keep hk, fun hl => ?_, fun hl => .inl (g5 hl)⟩
    rintro (h5 | rfl)
    · exact g4 hl h5
    · omega
  · intro b b' B h1 _ h2 _ e1 e2
    simp only [wval, true_implies] at h1 h2
    cases k1 : u.blk b with
    | none => exact absurd k1 h1
    | some x => cases k2 : u.blk b' with
      | none => exact absurd k2 h2
      | some y => exact h.inj b b' B x y (by simp [St.at, k1]) (by simp [St.at, k2]) e1 e2

theorem zeros_run (n : Nat) (z : List D) (vals : Array Value) (hv : vals = (z.map zval).toArray) (hz : 0 < z.length) : ((Array.range (n * z.length)).map (vals[· % vals.size]!)) = ((zeros n z).map zval).toArray := by
  subst hv
  apply Array.ext'
  simp only [Array.toList_map, Array.toList_range, zeros]
  induction n with
  | zero => simp
  | succ n ih =>
    rw [Nat.succ_mul, List.range_add, List.map_append, ih, List.replicate_succ', List.flatten_append, List.map_append]
    congr 1
    simp only [List.map_map, List.flatten_cons, List.flatten_nil, List.append_nil]
    apply List.ext_getElem
    · simp
    · intro i h1 h2
      simp at h1
      simp only [List.getElem_map, List.getElem_range, Function.comp]
      have : (n * z.length + i) % (z.map zval).toArray.size = i := by
        simp only [List.size_toArray, List.length_map]
        rw [Nat.mul_comm, Nat.mul_add_mod, Nat.mod_eq_of_lt h1]
      rw [this]
      simp [h1]

theorem zeros_length (n : Nat) (z : List D) : (zeros n z).length = n * z.length := by simp [zeros]

theorem zeros_all {n : Nat} {z : List D} (h : z.all zeroD = true) : (zeros n z).all zeroD = true := by
  rw [List.all_eq_true] at h ⊢
  intro x hx
  simp only [zeros, List.mem_flatten, List.mem_replicate] at hx
  obtain ⟨l, ⟨_, rfl⟩, hx⟩ := hx
  exact h x hx

theorem ok_buildSlice {t e n : Nat} {ti te : TI} {parts : Array (Nat × Operand)} {k : List Nat → List (Nat × Option Blk) → V → Prop} (hT : TabOk P T) (ht : T t = some ti) (hko : ti.kind = .slice e) (hte : T e = some te) (hn : n * te.size ≤ 2 ^ 24)
    (h : fillD m g (fun i => some (i * te.size, te.size)) parts.toList (zeros n te.zero) fun R W cs => k R W (.d (.lst n cs))) :
    ∃ R W v, k R W v ∧ StepOk P (.buildSlice t n parts) f g m R W v := by
  obtain ⟨R, W, cs, hk, hM, hMR, hlen, hF⟩ := fill_ok parts.toList (zeros n te.zero) _ h
  refine ⟨R, W, _, hk, ?_⟩
  intro C u A a w o Q hC ho hS hg hm hA hd
  obtain ⟨ok, β, hS⟩ := hS
  obtain ⟨dst, op', ty, pos, after, guard⟩ := o
  simp only at ho; subst ho
  obtain ⟨i, z, e1, e2, e3, e4, e5, e6, e7, e8, _⟩ := hT.info e te hte
  obtain ⟨ok', arr', hS', hlo, hfill, hrc, hsz⟩ := hF C u A a w ok β a.eval ((zeros n te.zero).map zval).toArray hS (fun b hb => by rw [hm b hb]; rfl)
    (fun p hp => hS.opv (fun t e => hg t (by simp only [Op.operands]; rw [← e]; simp; exact ⟨p.1, by simpa using hp⟩)))
    (zero_rep (zeros_all e7)) (by simp)
  have hmap : ((parts.map fun (x : Nat × Operand) => (x.1, a.eval x.2)).toList) = parts.toList.map fun p => (p.1, a.eval p.2) := by simp
  have hrun : (execOp a.eval ⟨dst, .buildSlice t n parts, ty, pos, after, guard⟩).run P w = .ok (.value (.slice (some ⟨w.heap.size, 0, none⟩) n n)) { w with heap := w.heap.push (.cells arr' e (0, 0)) } := by
    have hz : (zeroValue e).run P w = .ok z w := by simp [zeroValue, typeInfo, go_sem, e1, e4]
    have hu : (underlying t).run P w = .ok (.slice e) w := by simp [underlying, go_sem, slice_desc hT ht hko]
    have hse : (sizeOf e).run P w = .ok te.size w := by simp [sizeOf, typeInfo, go_sem, e1, e2]
    simp only [execOp, Instr.buildSlice]
    rw [run_bind, run_bind, hu]
    simp only
    rw [run_bind, hse]
    simp only
    rw [if_neg (by omega)]
    by_cases h0 : n * te.size = 0
    · have hn0 : n = 0 := by
        rcases Nat.mul_eq_zero.1 h0 with h | h
        · exact h
        · omega
      rw [if_pos h0]
      rw [run_bind]
      simp only [hmap, h0]
      rw [show (pure #[] : Sem (Array Value)).run P w = .ok #[] w from rfl]
      simp only
      have : (Array.map (fun x => (#[] : Array Value)[x % (#[] : Array Value).size]!) (Array.range 0)) = ((zeros n te.zero).map zval).toArray := by subst hn0; simp [zeros]
      rw [this, hfill]
      rfl
    · rw [if_neg h0, run_bind]
      rw [hz]
      simp only
      rw [run_bind]
      rw [show (pure z.cells : Sem (Array Value)).run P w = .ok z.cells w from rfl]
      simp only
      have : (Array.map (fun x => z.cells[x % z.cells.size]!) (Array.range (n * te.size))) = ((zeros n te.zero).map zval).toArray := by
        rw [← e6]
        exact zeros_run n te.zero z.cells e5 (by omega)
      rw [hmap, this, hfill]
      rfl
  unfold Oper.wp
  subst hC
  rw [hrun]
  simp only [Oper.upon]
  refine (hS'.allocF hA hd (v := .d (.lst n cs)) w.drawn ?_).congr (fun x => ?_) (fun _ h => h)
  · simp only [RepV, RepD]
    refine ⟨_, _, rfl, Nat.le_refl _, .ofC fun i d hd => ⟨.inr rfl, ?_⟩⟩
    obtain ⟨u, h1, h2⟩ := hrc i d hd
    rw [Nat.zero_add] at h1
    refine ⟨u, ⟨arr', e, (0, 0), push_new, by rw [Nat.zero_add]; exact h1⟩, RepD.keep ⟨fun k hk => push_lt (hS'.frame.lt k hk), fun _ h => .inl h⟩ _ _ h2⟩
  · have := apply_append u W [] (dst.map (·, V.d (.lst n cs))) x
    rw [List.append_nil] at this
    exact this.symm

end Go.Abs

set_option linter.unusedVariables false
set_option linter.unusedSimpArgs false
namespace Go.Abs
open Go

variable {P : Program} {T : Tab} {f : Nat} {g : Nat → V} {m : Nat → Option Blk}

theorem row_size {w : World} {B : Nat} {arr : Array Value} {TT : TypeId} : (World.row w B arr TT).heap.size = w.heap.size := by simp [World.row]

/-- A block of the call's own is written. -/
theorem SimAt.write {C : Ctx} {u : St} {A : Nat → Prop} {a : Act} {w : World} {ok : Nat → Prop} {β : Nat → Option Nat} (h : SimAt C u.at A a w ok β) (hA : ¬ A f) {dst : Option Nat} (hd : dst.getD 0 < C.nt)
    {b B : Nat} {cells cells' : List D} {arr arr' : Array Value} {TT : TypeId} (hb : u.blk b = some ⟨cells, true⟩) (hB : β b = some B) (hh : w.heap[B]? = some (.cells arr TT (0, 0))) (hs : arr'.size = arr.size)
    (hl : cells'.length ≤ arr'.size) (hr : RepC w.heap ok cells' arr' 0) {v : V} {r : Value} (hv : dst ≠ none → RepV w.heap ok β v r) :
    SimA C (u.apply ⟨[(b, some ⟨cells', true⟩)], dst.map (·, v)⟩) (fun b => A b ∨ b = f) (a.put dst r) (World.row w B arr' TT) := by
  obtain ⟨f1, f2⟩ := h.fresh hA
  have hBlt : B < w.heap.size := (Array.getElem?_eq_some_iff.1 hh).1
  have hnok : ¬ ok B := by
    rcases h.mem b _ (by rw [at_blk]; exact hb) with ⟨h1, _⟩ | ⟨B', h1, ⟨_, _, _, _, _, h2, _⟩, _⟩
    · rw [hB] at h1; cases h1
    · rw [hB] at h1; cases h1; exact h2 rfl
  have hown : C.lent B ∨ C.w0.heap.size ≤ B := by
    rcases h.mem b _ (by rw [at_blk]; exact hb) with ⟨h1, _⟩ | ⟨B', h1, _, h2⟩
    · rw [hB] at h1; cases h1
    · rw [hB] at h1; cases h1; exact h2
  have hk : Keeps w.heap (World.row w B arr' TT).heap ok ok := ⟨fun k hk => row_heap_ne (fun e => hnok (e ▸ hk)), fun _ h => h⟩
  have hsh : Shape w.heap (World.row w B arr' TT).heap := ⟨fun k x TT' e => by
    by_cases e2 : k = B
    · subst e2
      rw [hh] at e; cases e
      exact ⟨arr', row_heap_same hBlt, hs⟩
    · exact ⟨x, by rw [row_heap_ne e2]; exact e, rfl⟩⟩
  have hwv : ∀ b', wval [(b, some ⟨cells', true⟩)] b' = if b' = b then some (some ⟨cells', true⟩) else none := fun b' => by simp [wval]
  have hf := h.frame
  refine ⟨ok, β, h.step hA (by rw [h.nt]; exact hd) ⟨hf.os, hf.tape, hf.output, by rw [row_size]; exact hf.size, fun k hk1 hk2 => ?_, hf.lo, hf.hi, fun k hk => by rw [row_size]; exact hf.lt k hk, hf.shape.trans hsh⟩ hk hsh (fun _ _ h => h) (fun _ _ h => .inl h)
    (fun hne => RepV.keep hk hsh (fun _ _ h => h) _ _ (hv hne)) (fun b' k e => ?_) (fun b' k B' e e2 e3 e4 => ?_) f1 (fun b1 b2 B' h1 h1' h2 h2' e1 e2 => ?_)⟩
  · rw [row_heap_ne]; · exact hf.keep k hk1 hk2
    intro e; subst e
    rcases hown with h | h
    · exact hk2 h
    · omega
  · rw [hwv] at e
    split at e
    · rename_i e'; subst e'; simp at e; subst e
      refine ⟨.inl (h.mused b' _ (by rw [at_blk]; exact hb)), .inr ⟨B, hB, ⟨arr', TT, row_heap_same hBlt, hl, hr.keep hk, fun _ => hnok, by simp⟩, hown⟩⟩
    · cases e
  · rw [hwv] at e
    split at e
    · cases e
    · rename_i hne
      obtain ⟨arr2, TT', g1, g2, g3, g4, g5⟩ := e4
      have hBB : B' ≠ B := fun e => hne (h.inj b' b B' k _ (by rw [at_blk]; exact e2) (by rw [at_blk]; exact hb) e3 (e ▸ hB))
      exact ⟨arr2, TT', by rw [row_heap_ne hBB]; exact g1, g2, g3.keep hk, g4, g5⟩
  · have key : ∀ b', (wval [(b, some (⟨cells', true⟩ : Blk))] b' = none → u.blk b' ≠ none) → ∃ x, u.blk b' = some x := fun b' h1 => by
      rw [hwv] at h1
      by_cases e : b' = b
      · exact ⟨_, e ▸ hb⟩
      · rw [if_neg e] at h1
        cases e4 : u.blk b' with
        | none => exact absurd e4 (h1 rfl)
        | some x => exact ⟨x, rfl⟩
    obtain ⟨x, hx⟩ := key b1 h1
    obtain ⟨y, hy⟩ := key b2 h2
    exact h.inj b1 b2 B' x y (by rw [at_blk]; exact hx) (by rw [at_blk]; exact hy) e1 e2

theorem repC_plain {H : Array Obj} {ok : Nat → Prop} {xs : List D} {arr : Array Value} (h : RepC H ok xs arr 0) (hs : arr.size = xs.length) : ∀ v ∈ arr.toList, plainV v := fun v hv => by
  obtain ⟨i, hi, e⟩ := List.mem_iff_getElem.1 hv
  have hi' : i < xs.length := by simpa [hs] using hi
  obtain ⟨u, h1, h2⟩ := h i xs[i] (by simp [hi'])
  rw [Nat.zero_add] at h1
  have : u = v := by
    have h3 : arr[i]? = some v := by simp at hi; simp [hi] at e ⊢; exact e
    rw [h1] at h3; exact Option.some.inj h3
  exact this ▸ h2.plain

theorem ok_store {t : Nat} {ti : TI} {x y : Operand} {b off : Nat} {k : List Nat → List (Nat × Option Blk) → V → Prop} (hT : TabOk P T) (ht : T t = some ti) (hx : opv g x = .ptr b off)
    (h : frz m (opv g y) fun R W xs => match m b with
      | some ⟨cells, true⟩ => ((T t).isSome = true ∧ xs.length = T.size t ∧ off + xs.length ≤ cells.length ∧ b ∉ R) ∧ k (b :: R) (W ++ [(b, some ⟨setCells cells off xs, true⟩)]) .junk
      | _ => False) : ∃ R W v, k R W v ∧ StepOk P (.store t x y) f g m R W v := by
  obtain ⟨R, W, xs, h, hM, hMR, hF⟩ := frz_ok h
  split at h
  · rename_i cells hmb
    obtain ⟨⟨_, hl, hle, hbR⟩, hk⟩ := h
    refine ⟨_, _, _, hk, ?_⟩
    intro C u A a w o Q hC ho hS hg hm hA hd
    obtain ⟨ok, β, hS⟩ := hS
    obtain ⟨dst, op', ty, pos, after, guard⟩ := o
    simp only at ho; subst ho
    obtain ⟨i, z, e1, e2, e3, e4, e5, e6, e7, hpos, _⟩ := hT.info t ti ht
    have hv := hS.opv (g := g) (x := y) (fun t e => hg t (by subst e; simp [Op.operands]))
    have hp := hS.opv (g := g) (x := x) (fun t e => hg t (by subst e; simp [Op.operands]))
    rw [hx] at hp
    simp only [RepV] at hp
    obtain ⟨B, hB, hp⟩ := hp
    have hub : u.blk b = some ⟨cells, true⟩ := by rw [hm b (by simp), hmb]
    obtain ⟨ok', hS', hlo, hsz, hrc⟩ := hF C u A a w ok β _ hS (fun b' hb' => by rw [hm b' (by simp [hb'])]; rfl) hv
    have hub' : (u.apply ⟨W, none⟩).blk b = some ⟨cells, true⟩ := by
      rw [blk_apply, wval_none_of, hub]; · rfl
      intro hmem
      obtain ⟨p, hp, e⟩ := List.mem_map.1 hmem
      exact hbR (e ▸ hMR p hp)
    rcases hS'.mem b _ (by rw [at_blk]; exact hub') with ⟨h1, _⟩ | ⟨B', h1, ⟨arr, TT, g1, g2, g3, g4, g5⟩, h3⟩
    · rw [hB] at h1; cases h1
    rw [hB] at h1; cases h1
    have hsize : T.size t = ti.size := by simp [Tab.size, ht]
    have hne : (a.eval y).cells.toList ≠ [] := by
      intro e
      have : (a.eval y).cells.size = 0 := by simpa using congrArg List.length e
      omega
    have hlen : off + 0 + (a.eval y).cells.toList.length ≤ arr.size := by
      have : (a.eval y).cells.toList.length = xs.length := by simpa using hsz
      simp only at g2
      omega
    have hst := run_storeCells (P := P) (B := B) (o := off) (T := TT) (a.eval y).cells.toList w 0 arr g1 hlen (repC_plain hrc hsz) hne
    have hrun : (execOp a.eval ⟨dst, .store t x y, ty, pos, after, guard⟩).run P w = .ok .skip (World.row w B (setVals arr off (a.eval y).cells.toList) TT) := by
      have hse : (sizeOf t).run P w = .ok ti.size w := by simp [sizeOf, typeInfo, go_sem, e1, e2]
      generalize a.eval = ρ at *
      simp only [execOp, Instr.storeAt, hp, Instr.sureAddr]
      rw [run_bind, run_bind]
      simp only [storeVar]
      rw [show (pure (⟨B, off, none⟩ : Addr) : Sem Addr).run P w = .ok ⟨B, off, none⟩ w from rfl]
      simp only
      rw [run_bind, hse]
      simp only
      rw [if_neg (by omega)]
      rw [hst]
      rfl
    unfold Oper.wp
    subst hC
    rw [hrun]
    simp only [Oper.upon]
    have hset := repC_setCells xs (a.eval y).cells.toList cells arr 0 off g3 (by simpa using hsz) (fun i d hd => by
      obtain ⟨u, e, r⟩ := hrc i d hd
      exact ⟨u, by simpa using e, r⟩) (by simp only at g2; omega)
    rw [Nat.zero_add] at hset
    refine (hS'.write hA hd (v := .junk) (r := undef) hub' hB g1 (setVals_size _ _ _) (by rw [setCells_length, setVals_size]; exact g2) hset (fun _ => by simp [RepV])).congr (fun x => ?_) (fun _ h => h)
    exact (apply_append _ _ _ _ x).symm
  · exact h.elim

theorem ok_makeSlice {t e : Nat} {ti te : TI} {l c : Operand} {k1 k2 : IntKind} {n : Int} (hT : TabOk P T) (ht : T t = some ti) (hko : ti.kind = .slice e) (hte : T e = some te)
    (hl : opv g l = .d (.int k1 n)) (hc : opv g c = .d (.int k2 n)) (h0 : 0 ≤ n) (hb : n * te.bytes ≤ 2 ^ 47) :
    StepOk P (.makeSlice t l c) f g m [] [(f, some ⟨zeros n.toNat te.zero, true⟩)] (.own f 0 n.toNat te.size) := by
  intro C u A a w o Q hC ho hS hg hm hA hd
  obtain ⟨ok, β, hS⟩ := hS
  obtain ⟨dst, op', ty, pos, after, guard⟩ := o
  simp only at ho; subst ho
  have v1 := hS.opv (g := g) (x := l) (fun t e => hg t (by subst e; simp [Op.operands]))
  have v2 := hS.opv (g := g) (x := c) (fun t e => hg t (by subst e; simp [Op.operands]))
  rw [hl, rep_int] at v1
  rw [hc, rep_int] at v2
  obtain ⟨i, z, e1, e2, e3, e4, e5, e6, e7, e8, e9⟩ := hT.info e te hte
  have hn : n ≤ 2 ^ 47 := by
    have : n * 1 ≤ n * (te.bytes : Int) := Int.mul_le_mul_of_nonneg_left (by omega) h0
    omega
  have hw : IntKind.i64.wrap n = n := IntWalk.i64_in _ (by omega)
  have hcells : ((Array.range (n.toNat * te.size)).map ((if n.toNat * te.size = 0 then #[] else z.cells)[· % (if n.toNat * te.size = 0 then #[] else z.cells).size]!)) = ((zeros n.toNat te.zero).map zval).toArray := by
    by_cases h0 : n.toNat * te.size = 0
    · have : n.toNat = 0 := by
        rcases Nat.mul_eq_zero.1 h0 with h | h
        · exact h
        · omega
      rw [this]
      simp [zeros]
    · rw [if_neg h0, ← e6]
      exact zeros_run n.toNat te.zero z.cells e5 (by omega)
  have hrun : (execOp a.eval ⟨dst, .makeSlice t l c, ty, pos, after, guard⟩).run P w = .ok (.value (.slice (some ⟨w.heap.size, 0, none⟩) n.toNat n.toNat)) { w with heap := w.heap.push (.cells ((zeros n.toNat te.zero).map zval).toArray e (0, 0)) } := by
    generalize a.eval = ρ at *
    have hu : (underlying t).run P w = .ok (.slice e) w := by simp [underlying, go_sem, slice_desc hT ht hko]
    have hti : ∀ w, (typeInfo e).run P w = .ok i w := fun w => by simp [typeInfo, go_sem, e1]
    have hz : (zeroValue e).run P w = .ok z w := by simp [zeroValue, typeInfo, go_sem, e1, e4]
    have hse : (sizeOf e).run P w = .ok te.size w := by simp [sizeOf, typeInfo, go_sem, e1, e2]
    have has : ∀ k (n : Int), (asInt (.int k n)).run P w = .ok n w := fun k n => by simp [asInt, asIntOf, go_sem]
    have hroom : (askRoom (n.toNat * i.bytes)).run P w = .ok () w := by
      unfold askRoom
      split <;> rfl
    have hb2 : ¬ (2 ^ 48 < (i.bytes : Int) * n) := by rw [e3, Int.mul_comm]; omega
    simp only [execOp, Instr.makeSlice, v1, v2]
    rw [run_bind, run_bind, hu]
    simp only
    rw [run_bind, has]
    simp only
    rw [run_bind, has]
    simp only
    rw [run_bind, hti]
    simp only [hw]
    rw [if_neg (by simp; exact ⟨⟨by omega, by omega⟩, by omega⟩)]
    rw [run_bind, hroom]
    simp only
    rw [run_bind, hse]
    simp only
    by_cases hz0 : n.toNat * te.size = 0
    · rw [if_pos hz0] at hcells
      rw [if_pos hz0, run_bind]
      rw [show (pure #[] : Sem (Array Value)).run P w = .ok #[] w from rfl]
      simp only
      rw [hcells]
      rfl
    · rw [if_neg hz0] at hcells
      rw [if_neg hz0, run_bind, hz]
      simp only
      rw [run_bind]
      rw [show (pure z.cells : Sem (Array Value)).run P w = .ok z.cells w from rfl]
      simp only
      rw [hcells]
      rfl
  unfold Oper.wp
  subst hC
  rw [hrun]
  simp only [Oper.upon]
  refine ⟨ok, _, hS.alloc hA hd (cells := zeros n.toNat te.zero) (by simp) (zero_rep (zeros_all e7)) w.drawn [] (by simp) (fun _ => ?_)⟩
  simp only [RepV]
  refine ⟨_, _, rfl, Nat.le_refl _, .inr ⟨w.heap.size, _, e, rfl, by simp [updβ], push_new, ?_⟩⟩
  simp [zeros_length, e6]

end Go.Abs

set_option linter.unusedVariables false
set_option linter.unusedSimpArgs false
namespace Go.Abs
open Go

variable {P : Program} {T : Tab} {f : Nat} {g : Nat → V} {m : Nat → Option Blk}

theorem setVals_get : ∀ (vs : List Value) (arr : Array Value) (o j : Nat), o + vs.length ≤ arr.size → (setVals arr o vs)[j]? = if o ≤ j ∧ j < o + vs.length then vs[j - o]? else arr[j]?
  | [], arr, o, j, _ => by
    simp only [setVals, List.length_nil, Nat.add_zero]
    rw [if_neg (by omega)]
  | v :: vs, arr, o, j, h => by
    simp only [setVals]
    rw [setVals_get vs _ (o + 1) j (by simp at h ⊢; omega)]
    simp only [List.length_cons] at h ⊢
    by_cases h1 : o = j
    · subst h1
      rw [if_neg (by omega), if_pos (by omega), Array.getElem?_setIfInBounds_self, if_pos (by omega)]
      simp
    · by_cases h2 : o + 1 ≤ j ∧ j < o + 1 + vs.length
      · rw [if_pos h2, if_pos (by omega)]
        rw [show j - o = (j - (o + 1)) + 1 by omega]
        simp
      · rw [if_neg h2, if_neg (by omega), Array.getElem?_setIfInBounds_ne h1]

theorem vals_of {w : World} {ok : Nat → Prop} {a : Option Addr} {cells : List D} {n sz : Nat} (hl : cells.length = n * sz) (hsz : 0 < sz)
    (h : ∀ i d, cells[i]? = some d → ∃ B o u, a = some ⟨B, o, none⟩ ∧ At w.heap B (o + i) u ∧ RepD w.heap ok d u) :
    ∃ vals : List Value, vals.length = n * sz ∧ (∀ (i : Nat) (d : D), cells[i]? = some d → ∃ u, vals[i]? = some u ∧ RepD w.heap ok d u) ∧ ((a = none ∧ n = 0) ∨ (∃ ad, a = some ad ∧ ∀ (j : Nat) (u : Value), vals[j]? = some u → w.cell? (ad.add j) = some u)) := by
  by_cases hn : cells = []
  · subst hn
    have hn0 : n = 0 := by
      rcases Nat.mul_eq_zero.1 hl.symm with h | h
      · exact h
      · omega
    subst hn0
    refine ⟨[], by simp, by intro i d hd; simp at hd, ?_⟩
    cases a with
    | none => exact .inl ⟨rfl, rfl⟩
    | some ad => exact .inr ⟨ad, rfl, by intro j u hu; simp at hu⟩
  · obtain ⟨d0, ds, rfl⟩ : ∃ d ds, cells = d :: ds := by cases cells with
      | nil => exact absurd rfl hn
      | cons d ds => exact ⟨d, ds, rfl⟩
    obtain ⟨B, o, u0, rfl, _⟩ := h 0 d0 (by simp)
    obtain ⟨arr, h1, h2, h3⟩ := row_of (w := w) (ok := ok) (B := B) (o := o) (cells := d0 :: ds) (fun i d hd => by
      obtain ⟨B', o', u, e, a1, a2⟩ := h i d hd
      cases e
      exact ⟨u, a1, a2⟩)
    refine ⟨arr.toList, by simp [h1]; simpa using hl, fun i d hd => ?_, .inr ⟨_, rfl, fun j u hu => ?_⟩⟩
    · obtain ⟨u, e, r⟩ := h2 i d hd
      exact ⟨u, by simpa using e, r⟩
    · have hj : j < (d0 :: ds).length := by
        have := (List.getElem?_eq_some_iff.1 hu).1
        rw [← h1]; simpa using this
      obtain ⟨u', e, r⟩ := h3 j hj
      have : u' = u := by
        have e2 : arr[j]? = some u := by simpa using hu
        rw [e] at e2; exact Option.some.inj e2
      subst this
      rw [add_mk]
      exact cell_at r

/-- A slice that is read. -/
def SlOk (m : Nat → Option Blk) (y : V) (sz : Nat) (R : List Nat) (n : Nat) (cells : List D) : Prop :=
  cells.length = n * sz ∧ ∀ (w : World) (ok : Nat → Prop) (β : Nat → Option Nat) (v : Value), RepV w.heap ok β y v → (∀ b ∈ R, ∀ blk, m b = some blk → BlkOk w.heap ok β b blk) →
    ∃ A c vals, v = .slice A n c ∧ List.length vals = n * sz ∧ (∀ (i : Nat) (d : D), cells[i]? = some d → ∃ u, vals[i]? = some u ∧ RepD w.heap ok d u) ∧ ((A = none ∧ n = 0) ∨ (∃ ad, A = some ad ∧ ∀ (j : Nat) (u : Value), vals[j]? = some u → w.cell? (ad.add j) = some u))

theorem sl_ok {y : V} {sz : Nat} {k : List Nat → Nat → List D → Prop} (hsz : 0 < sz) (h : slcells m y sz k) : ∃ R n cells, k R n cells ∧ SlOk m y sz R n cells := by
  unfold slcells at h
  split at h
  · rename_i n cells
    refine ⟨_, _, _, h.2, h.1, fun w ok β v hv _ => ?_⟩
    simp only [RepV, RepD] at hv
    obtain ⟨A, c, rfl, hn, hr⟩ := hv
    obtain ⟨vals, h1, h2, h3⟩ := vals_of (a := A) h.1 hsz (fun i d hd => by
      obtain ⟨B, o, u, e, _, a1, a2⟩ := RepL_iff.1 hr i d hd
      exact ⟨B, o, u, e, by simpa using a1, a2⟩)
    exact ⟨A, c, vals, rfl, h1, h2, h3⟩
  · refine ⟨_, _, _, h, by simp, fun w ok β v hv _ => ?_⟩
    simp only [RepV] at hv
    subst hv
    exact ⟨none, 0, [], rfl, by simp, by intro i d hd; simp at hd, .inl ⟨rfl, rfl⟩⟩
  · rename_i b off n sz'
    split at h
    · rename_i blk hb
      obtain ⟨⟨rfl, hle⟩, hk⟩ := h
      have hlen : ((blk.cells.drop off).take (n * sz')).length = n * sz' := by rw [List.length_take, List.length_drop]; omega
      refine ⟨_, _, _, hk, hlen, fun w ok β v hv hR => ?_⟩
      have hbk := hR b (by simp) blk hb
      simp only [RepV] at hv
      obtain ⟨A, c, rfl, hn, hr⟩ := hv
      rcases hr with ⟨rfl, rfl⟩ | ⟨B, arr, TT, rfl, hB, hh, hs⟩
      · have hn0 : n = 0 := by omega
        subst hn0
        exact ⟨none, 0, [], rfl, by simp, by intro i d hd; simp at hd, .inl ⟨rfl, rfl⟩⟩
      · rcases hbk with ⟨h1, _⟩ | ⟨B', h1, arr', TT', k1, k2, k3, _⟩
        · rw [hB] at h1; cases h1
        · rw [hB] at h1; cases h1
          obtain ⟨vals, h1, h2, h3⟩ := vals_of (w := w) (ok := ok) (a := some ⟨B, off, none⟩) hlen hsz (fun i d hd => by
            rw [List.getElem?_take] at hd
            split at hd
            · rw [List.getElem?_drop] at hd
              obtain ⟨u, hu, r⟩ := k3 _ d hd
              rw [Nat.zero_add] at hu
              exact ⟨B, off, u, rfl, ⟨arr', TT', _, k1, hu⟩, r⟩
            · cases hd)
          exact ⟨_, c, vals, rfl, h1, h2, h3⟩
    · exact h.elim
  · exact h.elim

theorem run_append_none {w : World} {t ty e : TypeId} {i : TypeInfo} (ht : P.underlying t = some (.slice e)) (hi : P.info? e = some i) {A : Option Addr} {n c c2 : Nat} (hn : n ≤ c) :
    (Builtin.append_ #[t, t] ty #[.slice A n c, .slice none 0 c2]).run P w = .ok (.slice A n c) w := by
  have hu : ∀ w, (underlying t).run P w = .ok (.slice e) w := fun w => by simp [underlying, go_sem, ht]
  have hs : ∀ w, (sizeOf e).run P w = .ok i.size w := fun w => by simp [sizeOf, typeInfo, go_sem, hi]
  cases A with
  | none => simp [Builtin.append_, run_bind, hu, hs, Builtin.lenOf, Builtin.firstCells, hn, go_sem]
  | some a => simp [Builtin.append_, run_bind, hu, hs, Builtin.lenOf, Builtin.firstCells, hn, go_sem, storeCells]


theorem repC_append {H : Array Obj} {ok : Nat → Prop} {cs cells : List D} {arr : Array Value} {news : List Value} (h1 : RepC H ok cs arr 0) (h2 : ∀ (i : Nat) (d : D), cells[i]? = some d → ∃ u, arr[cs.length + i]? = some u ∧ RepD H ok d u) :
    RepC H ok (cs ++ cells) arr 0 := fun i d hd => by
  rw [List.getElem?_append] at hd
  split at hd
  · exact h1 i d hd
  · rename_i hi
    obtain ⟨u, e, r⟩ := h2 _ d hd
    exact ⟨u, by rw [Nat.zero_add, show i = cs.length + (i - cs.length) by omega]; exact e, r⟩

theorem append_exec {w : World} {ρ : Operand → Value} {x y : Operand} {t : Nat} {c : Call} (h1 : c.callee = .builtin .append) (h2 : c.args = #[x, y]) (h3 : c.argTypes = #[t, t]) {dst : Option Tmp} {ty : TypeId} {pos : String} {after : Array Edge} {guard : Option (Nat × Bool)}
    {v : Value} {w' : World} (h : (Builtin.append_ #[t, t] ty #[ρ x, ρ y]).run P w = .ok v w') : (execOp ρ ⟨dst, .call c, ty, pos, after, guard⟩).run P w = .ok (.value v) w' := by
  obtain ⟨callee, args, types⟩ := c
  simp only at h1 h2 h3; subst h1; subst h2; subst h3
  simp only [execOp, resolve, invoke, builtin, Sem.run_bind, Sem.run_pure, Result.andThen_ok, List.map_toArray, List.map_cons, List.map_nil, h]

theorem ok_appendNil {t e n : Nat} {ti te : TI} {x y : Operand} {c : Call} {cells : List D} {R : List Nat} (hT : TabOk P T) (ht : T t = some ti) (hko : ti.kind = .slice e) (hte : T e = some te)
    (h1 : c.callee = .builtin .append) (h2 : c.args = #[x, y]) (h3 : c.argTypes = #[t, t]) (hx : opv g x = .nil) (hy : SlOk m (opv g y) te.size R n cells) (hb : n * te.bytes ≤ 2 ^ 47) :
    StepOk P (.call c) f g m R [(f, some ⟨cells, true⟩)] (.own f 0 n te.size) := by
  intro C u A a w o Q hC ho hS hg hm hA hd
  obtain ⟨ok, β, hS⟩ := hS
  obtain ⟨dst, op', ty, pos, after, guard⟩ := o
  simp only at ho; subst ho
  subst hC
  have v1 := hS.opv (g := g) (x := x) (fun t e => hg t (by subst e; simp [Op.operands, Call.operands, h1, h2]))
  have v2 := hS.opv (g := g) (x := y) (fun t e => hg t (by subst e; simp [Op.operands, Call.operands, h1, h2]))
  rw [hx] at v1
  simp only [RepV] at v1
  obtain ⟨i, z, e1, e2, e3, e4, e5, e6, e7, e8, e9⟩ := hT.info e te hte
  have hdsc := slice_desc hT ht hko
  obtain ⟨A2, c2, vals, hv2, hlv, hrv, had⟩ := hy.2 w ok β _ v2 (fun b hb blk e => by
    rw [← hm b hb] at e
    rcases hS.mem b blk (by simp [St.at, e]) with h | ⟨B, h1, h2, _⟩
    · exact .inl h
    · exact .inr ⟨B, h1, h2⟩)
  by_cases hn : n = 0
  · subst hn
    have hcells : cells = [] := List.eq_nil_of_length_eq_zero (by rw [hy.1]; simp)
    subst hcells
    have hrun : (Builtin.append_ #[t, t] ty #[a.eval x, a.eval y]).run C.P w = .ok (.slice none 0 0) w := by
      rw [v1, hv2]
      rcases had with ⟨rfl, _⟩ | ⟨ad, rfl, _⟩
      · exact run_append_none hdsc e1 (Nat.le_refl _)
      · have hu : ∀ w, (underlying t).run C.P w = .ok (.slice e) w := fun w => by simp [underlying, go_sem, hdsc]
        have hs : ∀ w, (sizeOf e).run C.P w = .ok i.size w := fun w => by simp [sizeOf, typeInfo, go_sem, e1]
        simp [Builtin.append_, run_bind, hu, hs, Builtin.lenOf, Builtin.firstCells, go_sem, loadCells, loadCellsFrom]
    unfold Oper.wp
    rw [append_exec h1 h2 h3 hrun]
    simp only [Oper.upon]
    obtain ⟨f1, f2⟩ := hS.fresh hA
    refine ⟨ok, β, hS.step hA (by rw [hS.nt]; exact hd) hS.frame ⟨fun _ _ => rfl, fun _ h => h⟩ (Shape.refl _) (fun _ _ h => h) (fun _ _ h => .inl h) (fun _ => ?_) (fun b k e => ?_) (fun _ _ _ _ _ _ h => h) f1 (fun b b' B k1 k2 k3 k4 g1 g2 => ?_)⟩
    · simp only [RepV]; exact ⟨none, 0, rfl, Nat.le_refl _, .inl ⟨rfl, rfl⟩⟩
    · simp only [wval] at e
      split at e
      · rename_i e'; subst e'; simp at e; subst e; exact ⟨.inr rfl, .inl ⟨f2, rfl⟩⟩
      · cases e
    · have key : ∀ b B, (wval [(f, some (⟨[], true⟩ : Blk))] b = none → u.blk b ≠ none) → β b = some B → ∃ x, u.blk b = some x := fun b B h1 h2 => by
        simp only [wval] at h1
        by_cases e : b = f
        · subst e; rw [f2] at h2; cases h2
        · rw [if_neg e] at h1
          cases e4 : u.blk b with
          | none => exact absurd e4 (h1 rfl)
          | some x => exact ⟨x, rfl⟩
      obtain ⟨x, hx⟩ := key b B k1 g1
      obtain ⟨y, hy⟩ := key b' B k3 g2
      exact hS.inj b b' B x y (by rw [at_blk]; exact hx) (by rw [at_blk]; exact hy) g1 g2
  · obtain ⟨ad, rfl, hcell⟩ : ∃ ad, A2 = some ad ∧ ∀ (j : Nat) (u : Value), vals[j]? = some u → w.cell? (ad.add j) = some u := by
      rcases had with ⟨_, h⟩ | h
      · exact absurd h hn
      · exact h
    have hnb : n ≤ n * te.bytes := Nat.le_mul_of_pos_right _ e9
    have hrun := run_append_nil (P := C.P) w t ty e i z hdsc e1 e4 ad n c2 vals (by rw [hlv, e2]) hcell (by omega) (by omega) (by rw [e3]; omega)
    rw [← v1, ← hv2] at hrun
    unfold Oper.wp
    rw [append_exec h1 h2 h3 hrun]
    simp only [Oper.upon]
    have hge := grownCap_ge w n 0 e
    refine ⟨ok, _, hS.alloc hA hd (cells := cells) (by simp [size_zeroCells, hy.1, hlv]) (fun j d hd => ?_) (w.drawn + 1) [] (by simp) (fun _ => ?_)⟩
    · obtain ⟨u, h1, h2⟩ := hrv j d hd
      refine ⟨u, ?_, h2⟩
      rw [Nat.zero_add, Array.getElem?_append_left (by simpa using (List.getElem?_eq_some_iff.1 h1).1)]
      simpa using h1
    · simp only [RepV]
      refine ⟨_, _, rfl, hge, .inr ⟨w.heap.size, _, e, rfl, by simp [updβ], push_new, ?_⟩⟩
      rw [Array.size_append, size_zeroCells, e5]
      simp only [List.size_toArray, List.length_map, hlv, e6, Nat.zero_add]
      rw [← Nat.add_mul]
      congr 1
      omega

end Go.Abs

set_option linter.unusedVariables false
set_option linter.unusedSimpArgs false
namespace Go.Abs
open Go

variable {P : Program} {T : Tab} {f : Nat} {g : Nat → V} {m : Nat → Option Blk}

theorem run_append_here {w : World} {t ty e : TypeId} {i : TypeInfo} {TT : TypeId} (ht : P.underlying t = some (.slice e)) (hi : P.info? e = some i) {B n0 c0 n2 c2 : Nat} {ad : Addr} {arr : Array Value} {news : List Value}
    (hg : w.heap[B]? = some (.cells arr TT (0, 0))) (hl : news.length = n2 * i.size) (hcell : ∀ (j : Nat) (u : Value), news[j]? = some u → w.cell? (ad.add j) = some u) (hp : ∀ v ∈ news, plainV v)
    (hroom : n0 + n2 ≤ c0) (hfit : n0 * i.size + news.length ≤ arr.size) (hne : news ≠ []) :
    (Builtin.append_ #[t, t] ty #[.slice (some ⟨B, 0, none⟩) n0 c0, .slice (some ad) n2 c2]).run P w = .ok (.slice (some ⟨B, 0, none⟩) (n0 + n2) c0) (World.row w B (setVals arr (n0 * i.size) news) TT) := by
  have hu : ∀ w, (underlying t).run P w = .ok (.slice e) w := fun w => by simp [underlying, go_sem, ht]
  have hs : ∀ w, (sizeOf e).run P w = .ok i.size w := fun w => by simp [sizeOf, typeInfo, go_sem, hi]
  have hf := run_firstCells_some (P := P) w i.size n2 ad n2 c2 news hl hcell
  have hst := run_storeCells (P := P) (B := B) (o := n0 * i.size) (T := TT) news w 0 arr hg (by omega) hp hne
  rw [Nat.add_zero] at hst
  simp [Builtin.append_, run_underlying ht, sizeOf, typeInfo, hi, Builtin.lenOf, hroom, hf, Addr.add_lit, hst]

theorem plain_vals {H : Array Obj} {ok : Nat → Prop} {cells : List D} {vals : List Value} (hl : vals.length = cells.length) (h : ∀ (i : Nat) (d : D), cells[i]? = some d → ∃ u, vals[i]? = some u ∧ RepD H ok d u) : ∀ v ∈ vals, plainV v := fun v hv => by
  obtain ⟨i, hi, e⟩ := List.mem_iff_getElem.1 hv
  obtain ⟨u, h1, h2⟩ := h i (cells[i]'(by omega)) (by simp)
  have : u = v := by
    have h3 : vals[i]? = some v := by simp [hi, e]
    rw [h1] at h3; exact Option.some.inj h3
  exact this ▸ h2.plain

theorem ok_appendOwn {t e n0 n b sz : Nat} {ti te : TI} {x y : Operand} {c : Call} {cs cells : List D} {R : List Nat} (hT : TabOk P T) (ht : T t = some ti) (hko : ti.kind = .slice e) (hte : T e = some te)
    (h1 : c.callee = .builtin .append) (h2 : c.args = #[x, y]) (h3 : c.argTypes = #[t, t]) (hx : opv g x = .own b 0 n0 sz) (hmb : m b = some ⟨cs, true⟩) (hsz : sz = te.size) (hbR : b ∉ R) (hcs : cs.length = n0 * te.size)
    (hy : SlOk m (opv g y) te.size R n cells) (hb : (n0 + n) * te.bytes ≤ 2 ^ 47) :
    StepOk P (.call c) f g m (b :: R) [(b, none), (f, some ⟨cs ++ cells, true⟩)] (.own f 0 (n0 + n) te.size) := by
  subst hsz
  intro C u A a w o Q hC ho hS hg hm hA hd
  obtain ⟨ok, β, hS⟩ := hS
  obtain ⟨dst, op', ty, pos, after, guard⟩ := o
  simp only at ho; subst ho
  subst hC
  have v1 := hS.opv (g := g) (x := x) (fun t e => hg t (by subst e; simp [Op.operands, Call.operands, h1, h2]))
  have v2 := hS.opv (g := g) (x := y) (fun t e => hg t (by subst e; simp [Op.operands, Call.operands, h1, h2]))
  rw [hx] at v1
  simp only [RepV] at v1
  obtain ⟨i, z, e1, e2, e3, e4, e5, e6, e7, e8, e9⟩ := hT.info e te hte
  have hdsc := slice_desc hT ht hko
  have hub : u.blk b = some ⟨cs, true⟩ := by rw [hm b (by simp), hmb]
  obtain ⟨A2, c2, vals, hv2, hlv, hrv, had⟩ := hy.2 w ok β _ v2 (fun b' hb' blk e => by
    rw [← hm b' (by simp [hb'])] at e
    rcases hS.mem b' blk (by simp [St.at, e]) with h | ⟨B, h1, h2, _⟩
    · exact .inl h
    · exact .inr ⟨B, h1, h2⟩)
  obtain ⟨A1, c1, hv1, hn1, hr1⟩ := v1
  obtain ⟨f1, f2⟩ := hS.fresh hA
  have hbf : b ≠ f := by intro e; subst e; rw [f1] at hub; cases hub
  have hwv : ∀ (X : Blk) b', wval [(b, none), (f, some X)] b' = if b' = f then some (some X) else if b' = b then some none else none := fun X b' => by
    simp only [wval]
    by_cases e : b' = f
    · simp [e]
    · simp [e]
  have hnn : n ≤ n * te.bytes := Nat.le_mul_of_pos_right _ e9
  have hn0n : (n0 + n) ≤ (n0 + n) * te.bytes := Nat.le_mul_of_pos_right _ e9
  -- what is left of the other blocks
  have hkeyi : ∀ (X : Blk) b', (wval [(b, none), (f, some X)] b' = none → u.blk b' ≠ none) → wval [(b, none), (f, some X)] b' ≠ some none → b' = f ∨ ∃ x, u.blk b' = some x ∧ b' ≠ f ∧ b' ≠ b := fun X b' h1 h2 => by
    rw [hwv] at h1 h2
    by_cases e : b' = f
    · exact .inl e
    · rw [if_neg e] at h1 h2
      by_cases e' : b' = b
      · rw [if_pos e'] at h2; exact absurd rfl h2
      · rw [if_neg e'] at h1
        cases e4 : u.blk b' with
        | none => exact absurd e4 (h1 rfl)
        | some x => exact .inr ⟨x, rfl, e, e'⟩
  rcases hr1 with ⟨rfl, rfl⟩ | ⟨B, arr, TT, rfl, hB, hh, hs⟩
  · -- nil
    have hn00 : n0 = 0 := by omega
    subst hn00
    have hcs0 : cs = [] := List.eq_nil_of_length_eq_zero (by rw [hcs]; simp)
    subst hcs0
    simp only [Nat.zero_add, List.nil_append] at hb ⊢
    by_cases hn : n = 0
    · subst hn
      have hcells : cells = [] := List.eq_nil_of_length_eq_zero (by rw [hy.1]; simp)
      subst hcells
      have hrun : (Builtin.append_ #[t, t] ty #[a.eval x, a.eval y]).run C.P w = .ok (.slice none 0 0) w := by
        rw [hv1, hv2]
        rcases had with ⟨rfl, _⟩ | ⟨ad, rfl, _⟩
        · exact run_append_none hdsc e1 (Nat.le_refl _)
        · have hu : ∀ w, (underlying t).run C.P w = .ok (.slice e) w := fun w => by simp [underlying, go_sem, hdsc]
          have hs : ∀ w, (sizeOf e).run C.P w = .ok i.size w := fun w => by simp [sizeOf, typeInfo, go_sem, e1]
          simp [Builtin.append_, run_bind, hu, hs, Builtin.lenOf, Builtin.firstCells, go_sem, loadCells, loadCellsFrom]
      unfold Oper.wp
      rw [append_exec h1 h2 h3 hrun]
      simp only [Oper.upon]
      refine ⟨ok, β, hS.step hA (by rw [hS.nt]; exact hd) hS.frame ⟨fun _ _ => rfl, fun _ h => h⟩ (Shape.refl _) (fun _ _ h => h) (fun _ _ h => .inl h) (fun _ => ?_) (fun b' k e => ?_) (fun _ _ _ _ _ _ h => h) f1 (fun b1 b2 B k1 k2 k3 k4 g1 g2 => ?_)⟩
      · simp only [RepV]; exact ⟨none, 0, rfl, Nat.le_refl _, .inl ⟨rfl, rfl⟩⟩
      · rw [hwv] at e
        split at e
        · rename_i e'; subst e'; simp at e; subst e; exact ⟨.inr rfl, .inl ⟨f2, rfl⟩⟩
        · split at e <;> simp at e
      · rcases hkeyi _ b1 k1 k2 with rfl | ⟨x, hx, _, _⟩
        · rw [f2] at g1; cases g1
        · rcases hkeyi _ b2 k3 k4 with rfl | ⟨y, hy, _, _⟩
          · rw [f2] at g2; cases g2
          · exact hS.inj b1 b2 B x y (by rw [at_blk]; exact hx) (by rw [at_blk]; exact hy) g1 g2
    · obtain ⟨ad, rfl, hcell⟩ : ∃ ad, A2 = some ad ∧ ∀ (j : Nat) (u : Value), vals[j]? = some u → w.cell? (ad.add j) = some u := by
        rcases had with ⟨_, h⟩ | h
        · exact absurd h hn
        · exact h
      have hrun := run_append_nil (P := C.P) w t ty e i z hdsc e1 e4 ad n c2 vals (by rw [hlv, e2]) hcell (by omega) (by omega) (by rw [e3]; omega)
      rw [← hv1, ← hv2] at hrun
      unfold Oper.wp
      rw [append_exec h1 h2 h3 hrun]
      simp only [Oper.upon]
      have hge := grownCap_ge w n 0 e
      refine ⟨ok, _, hS.alloc hA hd (cells := cells) (by simp [size_zeroCells, hy.1, hlv]) (fun j d hd => ?_) (w.drawn + 1) [(b, none)] (by simp) (fun _ => ?_)⟩
      · obtain ⟨u, h1, h2⟩ := hrv j d hd
        refine ⟨u, ?_, h2⟩
        rw [Nat.zero_add, Array.getElem?_append_left (by simpa using (List.getElem?_eq_some_iff.1 h1).1)]
        simpa using h1
      · simp only [RepV]
        refine ⟨_, _, rfl, hge, .inr ⟨w.heap.size, _, e, rfl, by simp [updβ], push_new, ?_⟩⟩
        rw [Array.size_append, size_zeroCells, e5]
        simp only [List.size_toArray, List.length_map, hlv, e6, Nat.zero_add]
        rw [← Nat.add_mul]
        congr 1
        omega
  · rw [Nat.zero_add] at hs
    obtain ⟨hlen, hrep, hnok, hown⟩ : cs.length ≤ arr.size ∧ RepC w.heap ok cs arr 0 ∧ ¬ ok B ∧ (C.lent B ∨ C.w0.heap.size ≤ B) := by
      rcases hS.mem b _ (by rw [at_blk]; exact hub) with ⟨g1, _⟩ | ⟨B', g1, ⟨arr', TT', k1, k2, k3, k4, _⟩, k6⟩
      · rw [hB] at g1; cases g1
      · rw [hB] at g1; cases g1; rw [hh] at k1; cases k1; exact ⟨k2, k3, k4 rfl, k6⟩
    have hBlt : B < w.heap.size := (Array.getElem?_eq_some_iff.1 hh).1
    have hβ' : ∀ b' B', b' ≠ f → (updβ β f B b' = some B' ↔ β b' = some B') := fun b' B' h => by simp [updβ, h]
    have hext : ∀ b' B', β b' = some B' → updβ β f B b' = some B' := fun b' B' hb => by
      rw [hβ' b' B' (by intro e; subst e; rw [f2] at hb; cases hb)]; exact hb
    by_cases hroom : n0 + n ≤ c1
    · -- in place
      by_cases hn : n = 0
      · subst hn
        have hcells : cells = [] := List.eq_nil_of_length_eq_zero (by rw [hy.1]; simp)
        subst hcells
        have hrun : (Builtin.append_ #[t, t] ty #[a.eval x, a.eval y]).run C.P w = .ok (.slice (some ⟨B, 0, none⟩) n0 c1) w := by
          rw [hv1, hv2]
          rcases had with ⟨rfl, _⟩ | ⟨ad, rfl, _⟩
          · exact run_append_none hdsc e1 hn1
          · have hu : ∀ w, (underlying t).run C.P w = .ok (.slice e) w := fun w => by simp [underlying, go_sem, hdsc]
            have hs : ∀ w, (sizeOf e).run C.P w = .ok i.size w := fun w => by simp [sizeOf, typeInfo, go_sem, e1]
            simp [Builtin.append_, run_bind, hu, hs, Builtin.lenOf, Builtin.firstCells, go_sem, loadCells, loadCellsFrom, hn1, storeCells]
        unfold Oper.wp
        rw [append_exec h1 h2 h3 hrun]
        simp only [Oper.upon, List.append_nil, Nat.add_zero]
        refine ⟨ok, updβ β f B, hS.step hA (by rw [hS.nt]; exact hd) hS.frame ⟨fun _ _ => rfl, fun _ h => h⟩ (Shape.refl _) hext (fun b' B' hb => ?_) (fun _ => ?_) (fun b' k e => ?_) (fun _ _ _ _ _ _ h => h) f1 (fun b1 b2 B' k1 k2 k3 k4 g1 g2 => ?_)⟩
        · by_cases e : b' = f
          · exact .inr e
          · exact .inl ((hβ' b' B' e).1 hb)
        · simp only [RepV]; exact ⟨_, _, rfl, hn1, .inr ⟨B, arr, TT, rfl, by simp [updβ], hh, by omega⟩⟩
        · rw [hwv] at e
          split at e
          · rename_i e'; subst e'; simp at e; subst e
            exact ⟨.inr rfl, .inr ⟨B, by simp [updβ], ⟨arr, TT, hh, hlen, hrep, fun _ => hnok, by simp⟩, hown⟩⟩
          · split at e <;> simp at e
        · rcases hkeyi _ b1 k1 k2 with rfl | ⟨x, hx, hxf, hxb⟩
          · rcases hkeyi _ b2 k3 k4 with rfl | ⟨y, hy, hyf, hyb⟩
            · rfl
            · simp [updβ] at g1; subst g1
              rw [hβ' b2 B hyf] at g2
              exact absurd (hS.inj b2 b B y _ (by rw [at_blk]; exact hy) (by rw [at_blk]; exact hub) g2 hB) hyb
          · rw [hβ' b1 B' hxf] at g1
            rcases hkeyi _ b2 k3 k4 with rfl | ⟨y, hy, hyf, hyb⟩
            · simp [updβ] at g2; subst g2
              exact absurd (hS.inj b1 b B x _ (by rw [at_blk]; exact hx) (by rw [at_blk]; exact hub) g1 hB) hxb
            · rw [hβ' b2 B' hyf] at g2
              exact hS.inj b1 b2 B' x y (by rw [at_blk]; exact hx) (by rw [at_blk]; exact hy) g1 g2
      · obtain ⟨ad, rfl, hcell⟩ : ∃ ad, A2 = some ad ∧ ∀ (j : Nat) (u : Value), vals[j]? = some u → w.cell? (ad.add j) = some u := by
          rcases had with ⟨_, h⟩ | h
          · exact absurd h hn
          · exact h
        have hfit : n0 * i.size + vals.length ≤ arr.size := by rw [hlv, ← hs, e2, ← Nat.add_mul]; exact Nat.mul_le_mul_right _ hroom
        have hne : vals ≠ [] := by
          intro e; rw [e] at hlv; simp at hlv
          rcases Nat.mul_eq_zero.1 hlv.symm with h | h <;> omega
        have hrun := run_append_here (P := C.P) (w := w) (t := t) (ty := ty) (TT := TT) hdsc e1 (B := B) (n0 := n0) (c0 := c1) (n2 := n) (c2 := c2) (ad := ad) hh (by rw [hlv, e2]) hcell (plain_vals (by rw [hlv, hy.1]) hrv) hroom hfit hne
        rw [← hv1, ← hv2, e2] at hrun
        unfold Oper.wp
        rw [append_exec h1 h2 h3 hrun]
        simp only [Oper.upon]
        have hk : Keeps w.heap (World.row w B (setVals arr (n0 * te.size) vals) TT).heap ok ok := ⟨fun k hk => row_heap_ne (fun e => hnok (e ▸ hk)), fun _ h => h⟩
        have hsh : Shape w.heap (World.row w B (setVals arr (n0 * te.size) vals) TT).heap := ⟨fun k x TT' e => by
          by_cases e2 : k = B
          · subst e2; rw [hh] at e; cases e; exact ⟨_, row_heap_same hBlt, setVals_size _ _ _⟩
          · exact ⟨x, by rw [row_heap_ne e2]; exact e, rfl⟩⟩
        have hf := hS.frame
        rw [e2] at hfit
        refine ⟨ok, updβ β f B, hS.step hA (by rw [hS.nt]; exact hd) ⟨hf.os, hf.tape, hf.output, by rw [row_size]; exact hf.size, fun k hk1 hk2 => ?_, hf.lo, hf.hi, fun k hk => by rw [row_size]; exact hf.lt k hk, hf.shape.trans hsh⟩ hk hsh hext (fun b' B' hb => ?_) (fun _ => ?_) (fun b' k e => ?_) (fun b' k B' e ee2 ee3 ee4 => ?_) f1 (fun b1 b2 B' k1 k2 k3 k4 g1 g2 => ?_)⟩
        · rw [row_heap_ne]; · exact hf.keep k hk1 hk2
          intro e; subst e
          rcases hown with h | h
          · exact hk2 h
          · omega
        · by_cases e : b' = f
          · exact .inr e
          · exact .inl ((hβ' b' B' e).1 hb)
        · simp only [RepV]; exact ⟨_, _, rfl, hroom, .inr ⟨B, _, TT, rfl, by simp [updβ], row_heap_same hBlt, by rw [setVals_size]; omega⟩⟩
        · rw [hwv] at e
          split at e
          · rename_i e'; subst e'; simp at e; subst e
            refine ⟨.inr rfl, .inr ⟨B, by simp [updβ], ⟨_, TT, row_heap_same hBlt, ?_, ?_, fun _ => hnok, by simp⟩, hown⟩⟩
            · rw [setVals_size, List.length_append, hcs, hy.1, ← hlv]; exact hfit
            · refine repC_append (news := vals) (fun j d hd => ?_) (fun j d hd => ?_)
              · obtain ⟨u, k1, k2⟩ := hrep j d hd
                refine ⟨u, ?_, RepD.keep hk _ _ k2⟩
                have hj : j < cs.length := (List.getElem?_eq_some_iff.1 hd).1
                rw [setVals_get _ _ _ _ hfit, if_neg (by omega)]; exact k1
              · obtain ⟨u, k1, k2⟩ := hrv j d hd
                have hj : j < vals.length := (List.getElem?_eq_some_iff.1 k1).1
                refine ⟨u, ?_, RepD.keep hk _ _ k2⟩
                rw [setVals_get _ _ _ _ hfit, if_pos (by omega)]
                rw [show cs.length + j - n0 * te.size = j by omega]; exact k1
          · split at e <;> simp at e
        · rw [hwv] at e
          split at e
          · cases e
          · split at e
            · cases e
            · rename_i hbf' hbb'
              obtain ⟨arr2, TT', g1, g2, g3, g4, g5⟩ := ee4
              have hBB : B' ≠ B := fun e => hbb' (hS.inj b' b B' k _ (by rw [at_blk]; exact ee2) (by rw [at_blk]; exact hub) ee3 (e ▸ hB))
              exact ⟨arr2, TT', by rw [row_heap_ne hBB]; exact g1, g2, g3.keep hk, g4, g5⟩
        · rcases hkeyi _ b1 k1 k2 with rfl | ⟨x, hx, hxf, hxb⟩
          · rcases hkeyi _ b2 k3 k4 with rfl | ⟨y, hy, hyf, hyb⟩
            · rfl
            · simp [updβ] at g1; subst g1
              rw [hβ' b2 B hyf] at g2
              exact absurd (hS.inj b2 b B y _ (by rw [at_blk]; exact hy) (by rw [at_blk]; exact hub) g2 hB) hyb
          · rw [hβ' b1 B' hxf] at g1
            rcases hkeyi _ b2 k3 k4 with rfl | ⟨y, hy, hyf, hyb⟩
            · simp [updβ] at g2; subst g2
              exact absurd (hS.inj b1 b B x _ (by rw [at_blk]; exact hx) (by rw [at_blk]; exact hub) g1 hB) hxb
            · rw [hβ' b2 B' hyf] at g2
              exact hS.inj b1 b2 B' x y (by rw [at_blk]; exact hx) (by rw [at_blk]; exact hy) g1 g2
    · -- grown
      obtain ⟨ad, rfl, hcell⟩ : ∃ ad, A2 = some ad ∧ ∀ (j : Nat) (u : Value), vals[j]? = some u → w.cell? (ad.add j) = some u := by
        rcases had with ⟨_, h⟩ | h
        · exact absurd h (by omega)
        · exact h
      have holen : (arr.toList.take (n0 * te.size)).length = n0 * te.size := by
        rw [List.length_take, Array.length_toList, ← hs]
        have := Nat.mul_le_mul_right te.size hn1
        omega
      have holds : ∀ (j : Nat) (v : Value), (arr.toList.take (n0 * te.size))[j]? = some v → w.cell? ((⟨B, 0, none⟩ : Addr).add j) = some v := fun j v hv => by
        rw [add_mk, Nat.zero_add]
        rw [List.getElem?_take] at hv
        split at hv
        · exact cell_at ⟨arr, TT, _, hh, by simpa using hv⟩
        · cases hv
      have hrun := run_append_grow (P := C.P) w t ty e i z hdsc e1 e4 ⟨B, 0, none⟩ n0 c1 (arr.toList.take (n0 * te.size)) (by rw [holen, e2]) holds ad n c2 vals (by rw [hlv, e2]) hcell (by omega) (by omega) (growslice_fits (by omega) (by rw [e3]; omega))
      rw [← hv1, ← hv2] at hrun
      unfold Oper.wp
      rw [append_exec h1 h2 h3 hrun]
      simp only [Oper.upon]
      have hge := grownCap_ge w (n0 + n) c1 e
      refine ⟨ok, _, hS.alloc hA hd (cells := cs ++ cells) ?_ ?_ (w.drawn + 1) [(b, none)] (by simp) (fun _ => ?_)⟩
      · simp only [Array.size_append, List.size_toArray, size_zeroCells, List.length_append, hcs, hy.1, hlv, holen]; omega
      · refine repC_append (news := vals) (fun j d hd => ?_) (fun j d hd => ?_)
        · obtain ⟨u, k1, k2⟩ := hrep j d hd
          have hj : j < cs.length := (List.getElem?_eq_some_iff.1 hd).1
          rw [Nat.zero_add] at k1
          refine ⟨u, ?_, k2⟩
          rw [Nat.zero_add, Array.append_assoc, Array.getElem?_append_left (by simp [holen]; omega)]
          rw [List.getElem?_toArray, List.getElem?_take, if_pos (by omega)]
          simpa using k1
        · obtain ⟨u, k1, k2⟩ := hrv j d hd
          have hj : j < vals.length := (List.getElem?_eq_some_iff.1 k1).1
          refine ⟨u, ?_, k2⟩
          rw [Array.getElem?_append_left (by simp [holen]; omega), Array.getElem?_append_right (by simp [holen]; omega)]
          simp only [List.size_toArray, holen, List.getElem?_toArray]
          rw [show cs.length + j - n0 * te.size = j by omega]; exact k1
      · simp only [RepV]
        refine ⟨_, _, rfl, hge, .inr ⟨w.heap.size, _, e, rfl, by simp [updβ], push_new, ?_⟩⟩
        simp only [Array.size_append, List.size_toArray, size_zeroCells, hlv, holen, e5, List.length_map, e6, Nat.zero_add]
        rw [← Nat.add_mul, ← Nat.add_mul]
        congr 1
        omega

end Go.Abs

set_option linter.unusedVariables false
set_option linter.unusedSimpArgs false
namespace Go.Abs
open Go

variable {P : Program} {T : Tab} {f : Nat} {g : Nat → V} {m : Nat → Option Blk}

theorem run_firstCells_take {w : World} {size n n2 c2 : Nat} {ad : Addr} {vals : List Value} (hl : n * size ≤ vals.length) (hcell : ∀ (j : Nat) (u : Value), vals[j]? = some u → w.cell? (ad.add j) = some u) :
    (Builtin.firstCells size n (.slice (some ad) n2 c2)).run P w = .ok (vals.take (n * size)).toArray w :=
  run_firstCells_some (P := P) w size n ad n2 c2 (vals.take (n * size)) (by rw [List.length_take]; omega) (fun j u hu => by
    rw [List.getElem?_take] at hu
    split at hu
    · exact hcell j u hu
    · cases hu)

theorem copy_exec {w : World} {ρ : Operand → Value} {x y : Operand} {t t2 : Nat} {c : Call} (h1 : c.callee = .builtin .copy) (h2 : c.args = #[x, y]) (h3 : c.argTypes = #[t, t2]) {dst : Option Tmp} {ty : TypeId} {pos : String} {after : Array Edge} {guard : Option (Nat × Bool)}
    {v : Value} {w' : World} (h : (Builtin.copy_ #[t, t2] ty #[ρ x, ρ y]).run P w = .ok v w') : (execOp ρ ⟨dst, .call c, ty, pos, after, guard⟩).run P w = .ok (.value v) w' := by
  obtain ⟨callee, args, types⟩ := c
  simp only at h1 h2 h3; subst h1; subst h2; subst h3
  simp only [execOp, resolve, invoke, builtin, Sem.run_bind, Sem.run_pure, Result.andThen_ok, List.map_toArray, List.map_cons, List.map_nil, h]

theorem ok_copy {t t2 e n0 n b off sz : Nat} {ti te : TI} {x y : Operand} {c : Call} {cs cells : List D} {R : List Nat} (hT : TabOk P T) (ht : T t = some ti) (hko : ti.kind = .slice e) (hte : T e = some te)
    (h1 : c.callee = .builtin .copy) (h2 : c.args = #[x, y]) (h3 : c.argTypes = #[t, t2]) (hx : opv g x = .own b off n0 sz) (hmb : m b = some ⟨cs, true⟩) (hsz : sz = te.size) (hbR : b ∉ R) (hcs : off + n0 * te.size ≤ cs.length)
    (hy : SlOk m (opv g y) te.size R n cells) :
    StepOk P (.call c) f g m (b :: R) [(b, some ⟨setCells cs off (cells.take (min n n0 * te.size)), true⟩)] (.d (.int .i64 (min n n0 : Nat))) := by
  subst hsz
  intro C u A a w o Q hC ho hS hg hm hA hd
  obtain ⟨ok, β, hS⟩ := hS
  obtain ⟨dst, op', ty, pos, after, guard⟩ := o
  simp only at ho; subst ho
  subst hC
  have v1 := hS.opv (g := g) (x := x) (fun t e => hg t (by subst e; simp [Op.operands, Call.operands, h1, h2]))
  have v2 := hS.opv (g := g) (x := y) (fun t e => hg t (by subst e; simp [Op.operands, Call.operands, h1, h2]))
  rw [hx] at v1
  simp only [RepV] at v1
  obtain ⟨i, z, e1, e2, e3, e4, e5, e6, e7, e8, e9⟩ := hT.info e te hte
  have hdsc := slice_desc hT ht hko
  have hub : u.blk b = some ⟨cs, true⟩ := by rw [hm b (by simp), hmb]
  obtain ⟨A2, c2, vals, hv2, hlv, hrv, had⟩ := hy.2 w ok β _ v2 (fun b' hb' blk e => by
    rw [← hm b' (by simp [hb'])] at e
    rcases hS.mem b' blk (by simp [St.at, e]) with h | ⟨B, h1, h2, _⟩
    · exact .inl h
    · exact .inr ⟨B, h1, h2⟩)
  obtain ⟨A1, c1, hv1, hn1, hr1⟩ := v1
  have hu : ∀ w, (underlying t).run C.P w = .ok (.slice e) w := fun w => by simp [underlying, go_sem, hdsc]
  have hs : ∀ w, (sizeOf e).run C.P w = .ok te.size w := fun w => by simp [sizeOf, typeInfo, go_sem, e1, e2]
  have hmin : n.min n0 = min n n0 := rfl
  by_cases hn : min n n0 = 0
  · -- nothing to copy
    have hrun : (Builtin.copy_ #[t, t2] ty #[a.eval x, a.eval y]).run C.P w = .ok (.int .i64 (min n n0 : Nat)) w := by
      rw [hv1, hv2]
      have hf : ∀ A2 : Option Addr, (Builtin.firstCells te.size 0 (.slice A2 n c2)).run C.P w = .ok #[] w := fun A2 => by
        cases A2 <;> simp [Builtin.firstCells, go_sem, loadCells, loadCellsFrom]
      cases A1 <;> cases A2 <;> simp [Builtin.copy_, run_bind, hu, hs, Builtin.lenOf, Builtin.firstCells, hmin, hn, go_sem, goInt, storeCells, loadCells, loadCellsFrom]
    unfold Oper.wp
    rw [copy_exec h1 h2 h3 hrun]
    simp only [Oper.upon]
    have hz : setCells cs off (cells.take (min n n0 * te.size)) = cs := by rw [hn]; simp [setCells]
    rw [hz]
    refine (hS.value hA hd (v := .d (.int .i64 (min n n0 : Nat))) (rep_int.2 rfl)).congr (fun l => ?_) (fun _ h => h)
    cases l with
    | t k => simp [St.at_apply, Upd.at]
    | b k =>
      rw [at_blk.2 rfl, at_blk.2 rfl, blk_apply, blk_apply]
      simp only [wval]
      by_cases e : k = b
      · subst e; simp [hub]
      · simp [e]
  · rcases hr1 with ⟨rfl, rfl⟩ | ⟨B, arr, TT, rfl, hB, hh, hsz⟩
    · omega
    obtain ⟨hlen, hrep⟩ : cs.length ≤ arr.size ∧ RepC w.heap ok cs arr 0 := by
      rcases hS.mem b _ (by rw [at_blk]; exact hub) with ⟨g1, _⟩ | ⟨B', g1, ⟨arr', TT', k1, k2, k3, _⟩, _⟩
      · rw [hB] at g1; cases g1
      · rw [hB] at g1; cases g1; rw [hh] at k1; cases k1; exact ⟨k2, k3⟩
    obtain ⟨ad, rfl, hcell⟩ : ∃ ad, A2 = some ad ∧ ∀ (j : Nat) (u : Value), vals[j]? = some u → w.cell? (ad.add j) = some u := by
      rcases had with ⟨_, h⟩ | h
      · omega
      · exact h
    have hle1 : min n n0 * te.size ≤ n * te.size := Nat.mul_le_mul_right _ (Nat.min_le_left _ _)
    have hle2 : min n n0 * te.size ≤ n0 * te.size := Nat.mul_le_mul_right _ (Nat.min_le_right _ _)
    have hf := run_firstCells_take (P := C.P) (w := w) (size := te.size) (n := min n n0) (n2 := n) (c2 := c2) (ad := ad) (vals := vals) (by rw [hlv]; exact hle1) hcell
    have hlt : (vals.take (min n n0 * te.size)).length = min n n0 * te.size := by rw [List.length_take, hlv]; omega
    have hne : vals.take (min n n0 * te.size) ≠ [] := by
      intro e; rw [e] at hlt; simp at hlt
      have : 0 < min n n0 * te.size := Nat.mul_pos (by omega) e8
      omega
    have hst := run_storeCells (P := C.P) (B := B) (o := off) (T := TT) (vals.take (min n n0 * te.size)) w 0 arr hh (by rw [hlt]; omega) (fun v hv => plain_vals (by rw [hlv, hy.1]) hrv v (List.mem_of_mem_take hv)) hne
    rw [Nat.add_zero] at hst
    have hrun : (Builtin.copy_ #[t, t2] ty #[a.eval x, a.eval y]).run C.P w = .ok (.int .i64 (min n n0 : Nat)) (World.row w B (setVals arr off (vals.take (min n n0 * te.size))) TT) := by
      rw [hv1, hv2]
      simp only [Builtin.copy_, Sem.run_bind, hu, hs, Builtin.lenOf, hmin, hf]
      simp [hu, hs, hf, hst, goInt, hmin]
    unfold Oper.wp
    rw [copy_exec h1 h2 h3 hrun]
    simp only [Oper.upon]
    have hset := repC_setCells (cells.take (min n n0 * te.size)) (vals.take (min n n0 * te.size)) cs arr 0 off hrep (by rw [List.length_take, List.length_take, hlv, hy.1]) (fun j d hd => by
      rw [List.getElem?_take] at hd
      split at hd
      · obtain ⟨u, h1, h2⟩ := hrv j d hd
        refine ⟨u, ?_, h2⟩
        rw [List.getElem?_take, if_pos (by assumption)]; exact h1
      · cases hd) (by rw [List.length_take, hy.1]; omega)
    rw [Nat.zero_add] at hset
    exact hS.write hA hd (v := .d (.int .i64 (min n n0 : Nat))) hub hB hh (setVals_size _ _ _) (by rw [setCells_length, setVals_size]; exact hlen) hset (fun _ => rep_int.2 rfl)

end Go.Abs

set_option linter.unusedVariables false
set_option linter.unusedSimpArgs false
namespace Go.Abs
open Go

variable {P : Program} {T : Tab} {f : Nat} {g : Nat → V} {m : Nat → Option Blk}

mutual
theorem RepV.congrβ {H : Array Obj} {ok : Nat → Prop} {β β' : Nat → Option Nat} : ∀ (x : V) (v : Value), (∀ b ∈ x.refs, β' b = β b) → RepV H ok β x v → RepV H ok β' x v
  | .d x, v, _, h => by simpa only [RepV] using h
  | .agg cells, v, _, h => by simpa only [RepV] using h
  | .own b off n sz, v, hb, h => by
    simp only [RepV] at h ⊢
    obtain ⟨A, c, e, l, r⟩ := h
    refine ⟨A, c, e, l, ?_⟩
    rcases r with r | ⟨B, arr, T, e1, e2, e3⟩
    · exact .inl r
    · exact .inr ⟨B, arr, T, e1, by rw [hb b (by simp [V.refs])]; exact e2, e3⟩
  | .nil, v, _, h => by simpa only [RepV] using h
  | .ptr b off, v, hb, h => by
    simp only [RepV] at h ⊢
    obtain ⟨B, e1, e2⟩ := h
    exact ⟨B, by rw [hb b (by simp [V.refs])]; exact e1, e2⟩
  | .fptr cells, v, _, h => by simpa only [RepV] using h
  | .fn f caps, v, hb, h => by
    simp only [RepV] at h ⊢
    obtain ⟨vs, e, l, r⟩ := h
    refine ⟨vs, e, l, fun i p hp => ?_⟩
    obtain ⟨B, e1, e2⟩ := r i p hp
    exact ⟨B, by rw [hb p.1 (by simp only [V.refs, List.mem_map]; exact ⟨p, List.mem_of_getElem? hp, rfl⟩)]; exact e1, e2⟩
  | .tup vs, v, hb, h => by
    simp only [RepV] at h ⊢
    obtain ⟨arr, e, l, r⟩ := h
    exact ⟨arr, e, l, RepVs.congrβ vs arr 0 (by simpa [V.refs] using hb) r⟩
  | .str s, v, _, h => by simpa only [RepV] using h
  | .junk, v, _, h => by simp only [RepV]
theorem RepVs.congrβ {H : Array Obj} {ok : Nat → Prop} {β β' : Nat → Option Nat} : ∀ (xs : List V) (arr : Array Value) (j : Nat), (∀ b ∈ V.refsL xs, β' b = β b) → RepVs H ok β xs arr j → RepVs H ok β' xs arr j
  | [], _, _, _, _ => by simp only [RepVs]
  | x :: xs, arr, j, hb, h => by
    simp only [RepVs] at h ⊢
    obtain ⟨⟨u, e, r⟩, h2⟩ := h
    exact ⟨⟨u, e, RepV.congrβ x u (fun b hm => hb b (by simp [V.refsL, hm])) r⟩, RepVs.congrβ xs arr (j + 1) (fun b hm => hb b (by simp [V.refsL, hm])) h2⟩
end

/-- The arguments of a call. -/
def ArgsOk (m : Nat → Option Blk) (vs : List V) (R : List Nat) (W : List (Nat × Option Blk)) (xs : List V) : Prop :=
  Marks m W ∧ (∀ p ∈ W, p.1 ∈ R) ∧ xs.length = vs.length ∧ ∀ (C : Ctx) (u : St) (A : Nat → Prop) (a : Act) (w : World) (ok : Nat → Prop) (β : Nat → Option Nat) (vals : List Value),
    SimAt C u.at A a w ok β → (∀ b ∈ R, SameC (u.blk b) (m b)) → vals.length = vs.length → (∀ (i : Nat) x v, vs[i]? = some x → vals[i]? = some v → RepV w.heap ok β x v) →
    ∃ ok', SimAt C (u.apply ⟨W, none⟩).at A a w ok' β ∧ (∀ k, ok k → ok' k) ∧ ∀ (i : Nat) x v, xs[i]? = some x → vals[i]? = some v → RepV w.heap ok' β x v

def ArgOk (m : Nat → Option Blk) (x : V) (R : List Nat) (W : List (Nat × Option Blk)) (y : V) : Prop :=
  Marks m W ∧ (∀ p ∈ W, p.1 ∈ R) ∧ ∀ (C : Ctx) (u : St) (A : Nat → Prop) (a : Act) (w : World) (ok : Nat → Prop) (β : Nat → Option Nat) (v : Value),
    SimAt C u.at A a w ok β → (∀ b ∈ R, SameC (u.blk b) (m b)) → RepV w.heap ok β x v →
    ∃ ok', SimAt C (u.apply ⟨W, none⟩).at A a w ok' β ∧ (∀ k, ok k → ok' k) ∧ RepV w.heap ok' β y v

theorem arg_same {x : V} : ArgOk m x [] [] x := ⟨by intro p hp; simp at hp, by simp, fun C u A a w ok β v hS _ hv => ⟨ok, hS.congr (apply_nil u) (fun _ h => h), fun _ h => h, hv⟩⟩

theorem arg_ok {x : V} {k : List Nat → List (Nat × Option Blk) → V → Prop} (h : frzArg m x k) : ∃ R W y, k R W y ∧ ArgOk m x R W y := by
  unfold frzArg at h
  split at h
  · rename_i b off n sz
    split at h
    · rename_i blk hb
      have hfz : frz m (.own b off n sz) (fun R W xs => R = [b] ∧ W = [(b, some ⟨blk.cells, false⟩)] ∧ xs = [.lst n ((blk.cells.drop off).take (n * sz))]) := by
        unfold frz; simp [hb]
      obtain ⟨R, W, xs, ⟨rfl, rfl, rfl⟩, h1, h2, h3⟩ := frz_ok hfz
      refine ⟨_, _, _, h, h1, h2, fun C u A a w ok β v hS hR hv => ?_⟩
      obtain ⟨ok', k1, k2, k3, k4⟩ := h3 C u A a w ok β v hS hR hv
      refine ⟨ok', k1, k2, ?_⟩
      obtain ⟨u', e, r⟩ := k4 0 _ rfl
      have hvs : ∃ A c, v = .slice A n c := by simp only [RepV] at hv; obtain ⟨A, c, e, _⟩ := hv; exact ⟨A, c, e⟩
      obtain ⟨A', c', rfl⟩ := hvs
      simp [Value.cells] at e
      subst e
      simpa only [RepV] using r
    · exact h.elim
  · refine ⟨_, _, _, h, by intro p hp; simp at hp, by simp, fun C u A a w ok β v hS _ hv => ⟨ok, hS.congr (apply_nil u) (fun _ h => h), fun _ h => h, ?_⟩⟩
    simp only [RepV] at hv
    subst hv
    simp [RepV, RepD, RepL]
  all_goals first | exact h.elim | exact ⟨_, _, _, h, arg_same⟩

theorem args_ok : ∀ (vs : List V) (k : List Nat → List (Nat × Option Blk) → List V → Prop), frzArgs m vs k → ∃ R W xs, k R W xs ∧ ArgsOk m vs R W xs
  | [], k, h => ⟨_, _, _, h, by intro p hp; simp at hp, by simp, rfl, fun C u A a w ok β vals hS _ _ _ => ⟨ok, hS.congr (apply_nil u) (fun _ h => h), fun _ h => h, by intro i x v hx; simp at hx⟩⟩
  | x :: vs, k, h => by
    simp only [frzArgs] at h
    obtain ⟨R, W, y, h, hM, hMR, hF⟩ := arg_ok h
    obtain ⟨R', W', ys, hk, hM', hMR', hlen, hF'⟩ := args_ok vs _ h
    refine ⟨_, _, _, hk, hM.append hM', fun p hp => ?_, by simp [hlen], fun C u A a w ok β vals hS hR hl hv => ?_⟩
    · rcases List.mem_append.1 hp with hp | hp
      · exact List.mem_append_left _ (hMR p hp)
      · exact List.mem_append_right _ (hMR' p hp)
    · obtain ⟨v0, vals, rfl⟩ : ∃ v0 vals', vals = v0 :: vals' := by cases vals with
        | nil => simp at hl
        | cons a b => exact ⟨a, b, rfl⟩
      obtain ⟨ok1, hS1, hlo1, hv1⟩ := hF C u A a w ok β v0 hS (fun b hb => hR b (List.mem_append_left _ hb)) (hv 0 x v0 rfl rfl)
      have hk1 : Keeps w.heap w.heap ok ok1 := ⟨fun _ _ => rfl, hlo1⟩
      obtain ⟨ok2, hS2, hlo2, hv2⟩ := hF' C _ A a w ok1 β vals hS1 (fun b hb => (hR b (List.mem_append_right _ hb)).of_marks hM none) (by simpa using hl)
        (fun i x' v' hx hv' => RepV.keep hk1 (Shape.refl _) (fun _ _ h => h) _ _ (hv (i + 1) x' v' (by simpa using hx) (by simpa using hv')))
      refine ⟨ok2, hS2.congr (fun x => (apply_append _ _ _ _ x).symm) (fun _ h => h), fun k hk => hlo2 k (hlo1 k hk), fun i x' v' hx hv' => ?_⟩
      cases i with
      | zero => simp at hx hv'; subst hx; subst hv'; exact RepV.keep ⟨fun _ _ => rfl, hlo2⟩ (Shape.refl _) (fun _ _ h => h) _ _ hv1
      | succ i => exact hv2 i x' v' (by simpa using hx) (by simpa using hv')

theorem args_same (vs : List V) : ArgsOk m vs [] [] vs :=
  ⟨by intro p hp; simp at hp, by simp, rfl, fun C u A a w ok β vals hS _ _ hv => ⟨ok, hS.congr (apply_nil u) (fun _ h => h), fun _ h => h, hv⟩⟩

theorem lend_ok : ∀ (vs : List V) (k : List (Nat × Blk) → Prop), lendOf m vs k → ∃ l, k l ∧ ∀ p ∈ l, m p.1 = some p.2 ∧ p.2.live = true
  | [], k, h => ⟨[], h, by simp⟩
  | x :: vs, k, h => by
    cases x with
    | ptr b off =>
      simp only [lendOf] at h
      split at h
      · rename_i blk hb
        obtain ⟨hl, h⟩ := h
        obtain ⟨l, hk, hp⟩ := lend_ok vs _ h
        exact ⟨_, hk, fun p hm => by
          rcases List.mem_cons.1 hm with rfl | hm
          · exact ⟨hb, hl⟩
          · exact hp p hm⟩
      · exact h.elim
    | own b off n sz =>
      simp only [lendOf] at h
      split at h
      · rename_i blk hb
        obtain ⟨hl, h⟩ := h
        obtain ⟨l, hk, hp⟩ := lend_ok vs _ h
        exact ⟨_, hk, fun p hm => by
          rcases List.mem_cons.1 hm with rfl | hm
          · exact ⟨hb, hl⟩
          · exact hp p hm⟩
      · exact h.elim
    | _ => exact lend_ok vs k h

theorem lent_ok : ∀ (vs : List V) (k : List (Nat × Blk) → Prop), lentOf m vs k → ∃ l, k l ∧ ∀ p ∈ l, m p.1 = some p.2 ∧ p.2.live = true
  | [], k, h => ⟨[], h, by simp⟩
  | x :: vs, k, h => by
    cases x with
    | ptr b off =>
      simp only [lentOf] at h
      split at h
      · rename_i blk hb
        obtain ⟨hl, h⟩ := h
        obtain ⟨l, hk, hp⟩ := lent_ok vs _ h
        exact ⟨_, hk, fun p hm => by
          rcases List.mem_cons.1 hm with rfl | hm
          · exact ⟨hb, hl⟩
          · exact hp p hm⟩
      · exact h.elim
    | _ => exact lent_ok vs k h

theorem call_exec {w : World} {ρ : Operand → Value} {c : Call} {fo : Operand} {fid : Nat} {caps : Array Value} (hc : Callable P fid) (h1 : c.callee = .value fo) (hf : ρ fo = .func (.func fid) #[] caps)
    {dst : Option Tmp} {ty : TypeId} {pos : String} {after : Array Edge} {guard : Option (Nat × Bool)} :
    (execOp ρ ⟨dst, .call c, ty, pos, after, guard⟩).run P w = .ok (.enter fid (c.args.map ρ ++ caps)) w := by
  obtain ⟨fn, e1, e2, e3⟩ := hc
  obtain ⟨callee, args, types⟩ := c
  simp only at h1; subst h1
  have hcf : ∀ as, (callFunc fid as).run P w = .ok (.enter fid as) w := fun as => by
    unfold callFunc
    rw [run_bind]
    rw [show program.run P w = .ok P w from rfl]
    simp only [e1, e2, e3]
    rfl
  simp only [execOp, resolve, Deferred.ofValue, hf]
  rw [run_bind]
  have : (pure { target := Target.fn (Fn.func fid) caps, args := #[] ++ Array.map ρ args } : Sem Deferred).run P w = .ok { target := Target.fn (Fn.func fid) caps, args := #[] ++ Array.map ρ args } w := rfl
  rw [this]
  simp only [invoke]
  rw [hcf]
  simp

end Go.Abs

set_option linter.unusedVariables false
set_option linter.unusedSimpArgs false
namespace Go.Abs
open Go

variable {P : Program} {T : Tab} {f : Nat} {g : Nat → V} {m : Nat → Option Blk}

theorem wval_lent {lent out : List (Nat × Blk)} {b : Nat} : wval (lent.map (fun p => (p.1, none)) ++ out.map (fun p => (p.1, some p.2))) b =
    match wval (out.map (fun p => (p.1, some p.2))) b with | some x => some x | none => if b ∈ lent.map (·.1) then some none else none := by
  rw [wval_append]
  cases wval (out.map (fun p => (p.1, some p.2))) b with
  | some x => rfl
  | none =>
    simp only
    induction lent with
    | nil => simp [wval]
    | cons p l ih =>
      simp only [List.map_cons, wval, ih, List.mem_cons]
      by_cases e : b = p.1
      · subst e; by_cases e2 : p.1 ∈ l.map (·.1) <;> simp [e2]
      · by_cases e2 : b ∈ l.map (·.1)
        · simp [e, e2]
        · simp [e, e2]

theorem wval_out {out : List (Nat × Blk)} {b : Nat} {x : Option Blk} (h : wval (out.map (fun p => (p.1, some p.2))) b = some x) : ∃ k, x = some k ∧ (b, k) ∈ out := by
  have := wval_mem h
  obtain ⟨p, hp, e⟩ := List.mem_map.1 this
  cases e
  exact ⟨p.2, rfl, hp⟩

theorem ok_call {c : Call} {fo : Operand} {fid : Nat} {caps : List (Nat × Nat)} {R : List Nat} {W : List (Nat × Option Blk)} {vs : List V} {lent out : List (Nat × Blk)} {r : V}
    (h1 : c.callee = .value fo) (hf : opv g fo = .fn fid caps) (ha : ArgsOk m (c.args.toList.map (opv g)) R W vs) (hlent : ∀ p ∈ lent, m p.1 = some p.2 ∧ p.2.live = true)
    (hfn : Fn P fid (vs ++ caps.map fun p => .ptr p.1 p.2) lent r out) (hout : ∀ p ∈ out, p.1 = f ∨ p.1 ∈ lent.map (·.1)) (hlR : ∀ p ∈ lent, p.1 ∉ R) (href : ∀ b ∈ r.refs, b = f ∨ b ∈ lent.map (·.1)) :
    StepOk P (.call c) f g m (R ++ lent.map (·.1)) (W ++ lent.map (fun p => (p.1, none)) ++ out.map (fun p => (p.1, some p.2))) r := by
  intro C u A a w o Q hC ho hS hg hm hA hd
  obtain ⟨ok, β, hS⟩ := hS
  obtain ⟨dst, op', ty, pos, after, guard⟩ := o
  simp only at ho; subst ho
  subst hC
  obtain ⟨hM, hMR, hlen, hF⟩ := ha
  have hops : ∀ x, x = fo ∨ x ∈ c.args → RepV w.heap ok β (opv g x) (a.eval x) := fun x hx => hS.opv (fun t e => hg t (by
    subst e
    simp only [Op.operands, Call.operands, h1]
    rcases hx with rfl | hx
    · simp
    · simp [hx]))
  have v0 := hops fo (.inl rfl)
  rw [hf] at v0
  simp only [RepV] at v0
  obtain ⟨cv, hfv, hcl, hcv⟩ := v0
  obtain ⟨ok1, hS1, hlo1, hv1⟩ := hF C u A a w ok β (c.args.toList.map a.eval) hS (fun b hb => by rw [hm b (by simp [hb])]; rfl) (by simp) (fun i x v hx hv => by
    rw [List.getElem?_map] at hx hv
    cases e : c.args.toList[i]? with
    | none => rw [e] at hx; cases hx
    | some o =>
      rw [e] at hx hv
      simp at hx hv
      subst hx; subst hv
      exact hops o (.inr (by simpa using List.mem_of_getElem? e)))
  have hub : ∀ p ∈ lent, (u.apply ⟨W, none⟩).blk p.1 = some p.2 := fun p hp => by
    rw [blk_apply, wval_none_of, hm p.1 (by simp only [List.mem_append, List.mem_map]; exact .inr ⟨p, hp, rfl⟩), (hlent p hp).1]; · rfl
    intro hmem
    obtain ⟨q, hq, e⟩ := List.mem_map.1 hmem
    exact hlR p hp (e ▸ hMR q hq)
  obtain ⟨hcall, hfn⟩ := hfn
  have hrun := call_exec (w := w) (dst := dst) (ty := ty) (pos := pos) (after := after) (guard := guard) hcall h1 hfv
  have hspec := hfn w ok1 β (c.args.map a.eval ++ cv) hS1.frame.lt (by simp [hlen, hcl]) (by
    rw [RepVs_iff]
    intro i x hx
    rw [Nat.zero_add]
    rw [List.getElem?_append] at hx
    split at hx
    · rename_i hi
      have hi' : i < c.args.size := by rw [hlen] at hi; simpa using hi
      have e : (c.args.toList.map a.eval)[i]? = some (a.eval c.args[i]) := by simp [hi']
      refine ⟨a.eval c.args[i], ?_, hv1 i x _ hx e⟩
      rw [Array.getElem?_append_left (by simpa using hi')]
      simp [hi']
    · rename_i hi
      rw [List.getElem?_map] at hx
      cases e : caps[i - vs.length]? with
      | none => rw [e] at hx; cases hx
      | some p =>
        rw [e] at hx
        simp at hx; subst hx
        obtain ⟨B, hB, hcv⟩ := hcv _ p e
        have hsz : vs.length = c.args.size := by rw [hlen]; simp
        refine ⟨.pointer (some ⟨B, p.2, none⟩), ?_, by simp only [RepV]; exact ⟨B, hB, rfl⟩⟩
        rw [Array.getElem?_append_right (by simp; omega)]
        simpa [hsz] using hcv)
    (fun b blk hb => by
      have := hub _ hb
      refine ⟨(hlent _ hb).2, ?_⟩
      rcases hS1.mem b blk (by rw [at_blk]; exact this) with h | ⟨B, h, h', _⟩
      · exact .inl h
      · exact .inr ⟨B, h, h'⟩)
    (fun b b' k k' B hb hb' e e' => hS1.inj b b' B k k' (by rw [at_blk]; exact hub _ hb) (by rw [at_blk]; exact hub _ hb') e e')
  unfold Oper.wp
  rw [hrun]
  simp only [Oper.upon]
  refine hspec.mono ?_
  rintro e w' ⟨v, ok', β', rfl, hco⟩
  simp only
  obtain ⟨f1, f2⟩ := hS1.fresh hA
  -- the new naming
  have hlm : ∀ b, b ∈ lent.map (·.1) ↔ ∃ k, (b, k) ∈ lent := fun b => by
    simp only [List.mem_map]
    exact ⟨fun ⟨p, hp, e⟩ => ⟨p.2, e ▸ hp⟩, fun ⟨k, hk⟩ => ⟨_, hk, rfl⟩⟩
  have hflent : f ∉ lent.map (·.1) := fun h => by
    obtain ⟨k, hk⟩ := (hlm f).1 h
    have := hub _ hk
    simp only at this
    rw [f1] at this; cases this
  let β3 : Nat → Option Nat := fun b => if b = f then β' f else β b
  have hβ3 : ∀ b, b = f ∨ b ∈ lent.map (·.1) → β3 b = β' b := fun b hb => by
    by_cases e : b = f
    · subst e; simp [β3]
    · rcases hb with hb | hb
      · exact absurd hb e
      · obtain ⟨k, hk⟩ := (hlm b).1 hb
        simp only [β3, e, if_false]
        exact (hco.same b k hk).symm
  have hβo : ∀ b, b ≠ f → β3 b = β b := fun b hb => by simp [β3, hb]
  have hlB : ∀ b k B, (b, k) ∈ lent → β b = some B → ¬ ok1 B ∧ (C.lent B ∨ C.w0.heap.size ≤ B) ∧ B < w.heap.size := fun b k B hk hB => by
    have := hub _ hk
    rcases hS1.mem b k (by rw [at_blk]; exact this) with ⟨h, _⟩ | ⟨B', h, ⟨arr, TT, g1, g2, g3, g4, g5⟩, h'⟩
    · rw [hB] at h; cases h
    · rw [hB] at h; cases h
      exact ⟨g4 (hlent _ hk).2, h', (Array.getElem?_eq_some_iff.1 g1).1⟩
  have hkeep : Keeps w.heap w'.heap ok1 ok' := ⟨fun k hk => hco.keep k (hS1.frame.lt k hk) (fun b blk hb e => (hlB b blk k hb e).1 hk), hco.lo⟩
  have hfr := hS1.frame
  have hfr' : Frame C w' ok' := ⟨hco.os.trans hfr.os, hco.tape.trans hfr.tape, hco.output.trans hfr.output, Nat.le_trans hfr.size hco.size, fun k hk hl => by
      rw [hco.keep k (Nat.lt_of_lt_of_le hk hfr.size) (fun b blk hb e => by
        rcases (hlB b blk k hb e).2.1 with h | h
        · exact hl h
        · omega)]
      exact hfr.keep k hk hl,
    fun k hk => hco.lo k (hfr.lo k hk), fun k hk => by
      rcases hco.hi k hk with h | ⟨b, blk, hb, e⟩ | h
      · exact hfr.hi k h
      · rcases (hlB b blk k hb e).2.1 with h | h
        · exact .inr (.inl h)
        · exact .inr (.inr h)
      · exact .inr (.inr (Nat.le_trans hfr.size h)),
    hco.lt, hfr.shape.trans hco.shape⟩
  have hext : ∀ b B, β b = some B → β3 b = some B := fun b B hb => by
    rw [hβo b (by intro e; subst e; rw [f2] at hb; cases hb)]; exact hb
  have hne : ∀ b, b ≠ f → b ∉ lent.map (·.1) → wval (out.map (fun p => (p.1, some p.2))) b = none := fun b h1 h2 => by
    cases e : wval (out.map (fun p => (p.1, some p.2))) b with
    | none => rfl
    | some x =>
      obtain ⟨k, rfl, hk⟩ := wval_out e
      rcases hout _ hk with h | h
      · exact absurd h h1
      · exact absurd h h2
  refine SimA.congr (s := ((u.apply ⟨W, none⟩).apply ⟨lent.map (fun p => (p.1, none)) ++ out.map (fun p => (p.1, some p.2)), dst.map (·, r)⟩)) ⟨ok', β3, hS1.step (f := f) hA (by rw [hS1.nt]; exact hd) hfr' hkeep hco.shape hext (fun b B hb => ?_)
    (fun _ => RepV.congrβ r v (fun b hb => hβ3 b (href b hb)) hco.res) (fun b k e => ?_) (fun b k B e e2 e3 e4 => ?_) f1 (fun b b' B k1 k2 k3 k4 g1 g2 => ?_)⟩ (fun x => ?_) (fun _ h => h)
  · by_cases e : b = f
    · exact .inr e
    · exact .inl (by rw [hβo b e] at hb; exact hb)
  · rw [wval_lent] at e
    split at e
    · rename_i x hx
      obtain ⟨k', rfl, hk'⟩ := wval_out hx
      simp at e; subst e
      have hbi := hout _ hk'
      simp only at hbi
      refine ⟨?_, ?_⟩
      · rcases hbi with h | h
        · exact .inr h
        · obtain ⟨k0, hk0⟩ := (hlm b).1 h
          exact .inl (hS1.mused b k0 (by rw [at_blk]; exact hub _ hk0))
      · rw [hβ3 b hbi]
        rcases hco.made b k' hk' with h | ⟨B, h, h', h''⟩
        · exact .inl h
        · refine .inr ⟨B, h, h', ?_⟩
          rcases h'' with ⟨b0, k0, hk0, hβ0⟩ | h''
          · exact (hlB b0 k0 B hk0 hβ0).2.1
          · exact .inr (Nat.le_trans hfr.size h'')
    · split at e
      · simp at e
      · cases e
  · rw [wval_lent] at e
    split at e
    · cases e
    · split at e
      · cases e
      · rename_i hout' hbl
        obtain ⟨arr, TT, g1, g2, g3, g4, g5⟩ := e4
        have hBlt := (Array.getElem?_eq_some_iff.1 g1).1
        have hnl : ∀ b' blk', (b', blk') ∈ lent → β b' ≠ some B := fun b' blk' hb' e5 => by
          have := hS1.inj b b' B k blk' (by rw [at_blk]; exact e2) (by rw [at_blk]; exact hub _ hb') e3 e5
          subst this
          exact hbl ((hlm b).2 ⟨_, hb'⟩)
        refine ⟨arr, TT, by rw [hco.keep B hBlt hnl]; exact g1, g2, g3.keep hkeep, fun hl hok => ?_, fun hl => hco.lo B (g5 hl)⟩
        rcases hco.hi B hok with h | ⟨b', blk', hb', e5⟩ | h
        · exact g4 hl h
        · exact hnl b' blk' hb' e5
        · omega
  · -- injective
    have key : ∀ b, (wval (lent.map (fun p => (p.1, none)) ++ out.map (fun p => (p.1, some p.2))) b = none → (u.apply ⟨W, none⟩).blk b ≠ none) → wval (lent.map (fun p => (p.1, none)) ++ out.map (fun p => (p.1, some p.2))) b ≠ some none →
        (∃ k, (b, k) ∈ out) ∨ (b ≠ f ∧ b ∉ lent.map (·.1) ∧ ∃ x, (u.apply ⟨W, none⟩).blk b = some x) := fun b h1 h2 => by
      rw [wval_lent] at h1 h2
      cases e : wval (out.map (fun p => (p.1, some p.2))) b with
      | some x =>
        obtain ⟨k, _, hk⟩ := wval_out e
        exact .inl ⟨k, hk⟩
      | none =>
        rw [e] at h1 h2
        simp only at h1 h2
        by_cases e2 : b ∈ lent.map (·.1)
        · rw [if_pos e2] at h2; exact absurd rfl h2
        · rw [if_neg e2] at h1
          cases e3 : (u.apply ⟨W, none⟩).blk b with
          | none => exact absurd e3 (h1 rfl)
          | some x => exact .inr ⟨(by intro e4; subst e4; rw [f1] at e3; cases e3), e2, x, rfl⟩
    have cross : ∀ b k b' x, (b, k) ∈ out → b' ≠ f → b' ∉ lent.map (·.1) → (u.apply ⟨W, none⟩).blk b' = some x → β3 b = some B → β3 b' = some B → b = b' := fun b k b' x hk hb'f hb'l hx e e' => by
      have hbi := hout _ hk
      simp only at hbi
      rw [hβ3 b hbi] at e
      rw [hβo b' hb'f] at e'
      have hB' : B < w.heap.size := by
        rcases hS1.mem b' x (by rw [at_blk]; exact hx) with ⟨h, _⟩ | ⟨B', h, ⟨_, _, g1, _⟩, _⟩
        · rw [e'] at h; cases h
        · rw [e'] at h; cases h; exact (Array.getElem?_eq_some_iff.1 g1).1
      rcases hco.made b k hk with ⟨h, _⟩ | ⟨B', h, _, h''⟩
      · rw [e] at h; cases h
      · rw [e] at h; cases h
        rcases h'' with ⟨b0, k0, hk0, hβ0⟩ | h''
        · have := hS1.inj b0 b' B k0 x (by rw [at_blk]; exact hub _ hk0) (by rw [at_blk]; exact hx) hβ0 e'
          subst this
          exact absurd ((hlm b0).2 ⟨k0, hk0⟩) hb'l
        · omega
    rcases key b k1 k2 with ⟨x, hx⟩ | ⟨hbf, hbl, x, hx⟩
    · rcases key b' k3 k4 with ⟨y, hy⟩ | ⟨hbf', hbl', y, hy⟩
      · have hbi := hout _ hx
        have hbi' := hout _ hy
        simp only at hbi hbi'
        rw [hβ3 b hbi] at g1
        rw [hβ3 b' hbi'] at g2
        exact hco.inj b b' x y B hx hy g1 g2
      · exact cross b x b' y hx hbf' hbl' hy g1 g2
    · rcases key b' k3 k4 with ⟨y, hy⟩ | ⟨hbf', hbl', y, hy⟩
      · exact (cross b' y b x hy hbf hbl hx g2 g1).symm
      · rw [hβo b hbf] at g1
        rw [hβo b' hbf'] at g2
        exact hS1.inj b b' B x y (by rw [at_blk]; exact hx) (by rw [at_blk]; exact hy) g1 g2
  · rw [List.append_assoc]; exact (apply_append _ _ _ _ x).symm

end Go.Abs

set_option linter.unusedVariables false
set_option linter.unusedSimpArgs false
namespace Go.Abs
open Go

variable {P : Program} {T : Tab} {f : Nat} {g : Nat → V} {m : Nat → Option Blk}

theorem evalBuiltin_sound (hT : TabOk P T) {b : Builtin} {c : Call} {k : List Nat → List (Nat × Option Blk) → V → Prop} (hc : c.callee = .builtin b)
    (h : evalBuiltin T f m b c.argTypes.toList (c.args.toList.map (opv g)) k) : ∃ R W v, k R W v ∧ StepOk P (.call c) f g m R W v := by
  have one : ∀ v : V, c.args.toList.map (opv g) = [v] → ∃ x, c.args = #[x] ∧ opv g x = v := fun v e => by
    obtain ⟨callee, ⟨args⟩, types⟩ := c
    cases args with
    | nil => simp at e
    | cons x l => cases l with
      | nil => simp at e; exact ⟨x, rfl, e⟩
      | cons => simp at e
  have two : ∀ v v2 : V, c.args.toList.map (opv g) = [v, v2] → ∃ x y, c.args = #[x, y] ∧ opv g x = v ∧ opv g y = v2 := fun v v2 e => by
    obtain ⟨callee, ⟨args⟩, types⟩ := c
    cases args with
    | nil => simp at e
    | cons x l => cases l with
      | nil => simp at e
      | cons y l => cases l with
        | nil => simp at e; exact ⟨x, y, rfl, e.1, e.2⟩
        | cons => simp at e
  have t1 : ∀ t : Nat, c.argTypes.toList = [t] → c.argTypes = #[t] := fun t e => by
    apply Array.ext'; exact e
  have t2 : ∀ t u : Nat, c.argTypes.toList = [t, u] → c.argTypes = #[t, u] := fun t u e => by
    apply Array.ext'; exact e
  generalize hargs : c.args.toList.map (opv g) = args at h
  generalize htys : c.argTypes.toList = tys at h
  unfold evalBuiltin at h
  split at h
  · rename_i t x
    obtain ⟨y, hy, rfl⟩ := one x hargs
    obtain ⟨⟨ti, e, ht, hk⟩, h⟩ := h
    split at h
    · rename_i n cells hx
      exact ⟨_, _, _, h, ok_len hT ht hk hc hy (t1 t htys) (.inl ⟨cells, hx⟩)⟩
    · rename_i b off n sz hx
      exact ⟨_, _, _, h, ok_len hT ht hk hc hy (t1 t htys) (.inr (.inl ⟨b, off, sz, hx⟩))⟩
    · rename_i hx
      exact ⟨_, _, _, h, ok_len (n := 0) hT ht hk hc hy (t1 t htys) (.inr (.inr ⟨hx, rfl⟩))⟩
    · exact h.elim
  · rename_i t u x y
    obtain ⟨ox, oy, hxy, hx, hy⟩ := two x y hargs
    obtain ⟨ti, e, te, ⟨rfl, ht, hk, hte⟩, h⟩ := h
    have hpos : 0 < te.size := by obtain ⟨_, _, _, _, _, _, _, _, _, hp, _⟩ := hT.info e te hte; exact hp
    split at h
    · obtain ⟨R, n, cells, ⟨hb, h⟩, hs⟩ := sl_ok hpos h
      exact ⟨_, _, _, h, ok_appendNil hT ht hk hte hc hxy (t2 _ _ htys) hx (hy ▸ hs) hb⟩
    · rename_i b n0 sz
      split at h
      · rename_i cs hmb
        obtain ⟨R, n, cells, ⟨⟨h1, h2, h3, h4⟩, h⟩, hs⟩ := sl_ok hpos h
        exact ⟨_, _, _, h, ok_appendOwn hT ht hk hte hc hxy (t2 _ _ htys) hx hmb h1 h2 h3 (hy ▸ hs) h4⟩
      · exact h.elim
    · exact h.elim
  · rename_i t u x y
    obtain ⟨ox, oy, hxy, hx, hy⟩ := two x y hargs
    obtain ⟨ti, e, te, ⟨ht, hk, hte⟩, h⟩ := h
    have hpos : 0 < te.size := by obtain ⟨_, _, _, _, _, _, _, _, _, hp, _⟩ := hT.info e te hte; exact hp
    split at h
    · rename_i b off n0 sz
      split at h
      · rename_i cs hmb
        obtain ⟨R, n, cells, ⟨⟨h1, h2, h3⟩, h⟩, hs⟩ := sl_ok hpos h
        exact ⟨_, _, _, h, ok_copy hT ht hk hte hc hxy (t2 _ _ htys) hx hmb h1 h2 h3 (hy ▸ hs)⟩
      · exact h.elim
    · exact h.elim
  · rename_i tys' k1 x k2 y
    obtain ⟨ox, oy, hxy, hx, hy⟩ := two _ _ hargs
    exact ⟨_, _, _, h, ok_max hc hxy hx hy⟩
  · rename_i tys' k1 x k2 y
    obtain ⟨ox, oy, hxy, hx, hy⟩ := two _ _ hargs
    exact ⟨_, _, _, h, ok_min hc hxy hx hy⟩
  · exact h.elim

theorem evalOp_sound (hT : TabOk P T) {op : Op} {k : List Nat → List (Nat × Option Blk) → V → Prop} (h : evalOp P T f g m op k) : ∃ R W v, k R W v ∧ StepOk P op f g m R W v := by
  unfold evalOp at h
  split at h
  · exact ⟨_, _, _, h, ok_move⟩
  · exact ⟨_, _, _, h, ok_assign⟩
  · rename_i c a b
    split at h
    · rename_i t hc
      have := ok_pick (P := P) (f := f) (m := m) (x := a) (y := b) hc
      cases t with
      | true => simp only [if_true] at h this; exact ⟨_, _, _, h, this⟩
      | false => simp only [Bool.false_eq_true, if_false] at h this; exact ⟨_, _, _, h, this⟩
    · exact h.elim
  · split at h
    · rename_i ti ht; exact ⟨_, _, _, h, ok_alloc hT ht⟩
    · exact h.elim
  · exact ok_box h
  · rename_i t parts
    split at h
    · rename_i ti ht
      split at h
      · rename_i offs hk
        exact ok_build hT ht (.inl ⟨offs, hk, rfl⟩) h
      · rename_i n e hk
        split at h
        · rename_i te hte
          exact ok_build hT ht (.inr ⟨n, e, te, hk, hte, rfl⟩) h
        · exact h.elim
      · exact h.elim
    · exact h.elim
  · rename_i t n parts
    split at h
    · rename_i ti ht
      split at h
      · rename_i e hk
        split at h
        · rename_i te hte
          exact ok_buildSlice hT ht hk hte h.1 h.2
        · exact h.elim
      · exact h.elim
    · exact h.elim
  · rename_i t a
    split at h
    · rename_i b off ha
      split at h
      · rename_i blk hb
        split at h
        · rename_i hag
          have : ∃ ti, T t = some ti ∧ T.size t = ti.size := by
            unfold Tab.agg at hag; unfold Tab.size
            cases e : T t with
            | none => rw [e] at hag; cases hag
            | some ti => exact ⟨ti, rfl, rfl⟩
          obtain ⟨ti, ht, hs⟩ := this
          rw [hs] at h
          exact ⟨_, _, _, h.2, ok_loadA hT ht hag ha hb h.1⟩
        · obtain ⟨hi, d, hd, h⟩ := h
          exact ⟨_, _, _, h, ok_load hT hi ha hb hd⟩
      · exact h.elim
    · rename_i cells ha
      split at h
      · rename_i hag
        have : ∃ ti, T t = some ti ∧ T.size t = ti.size := by
          unfold Tab.agg at hag; unfold Tab.size
          cases e : T t with
          | none => rw [e] at hag; cases hag
          | some ti => exact ⟨ti, rfl, rfl⟩
        obtain ⟨ti, ht, hs⟩ := this
        rw [hs] at h
        exact ⟨_, _, _, h.2, ok_loadFA hT ht hag ha h.1⟩
      · obtain ⟨hi, d, hd, h⟩ := h
        exact ⟨_, _, _, h, ok_loadF hT hi ha hd⟩
    · exact h.elim
  · rename_i t a x
    split at h
    · rename_i b off ha
      cases ht : T t with
      | none =>
        obtain ⟨R, W, xs, h, _⟩ := frz_ok h
        split at h
        · rw [ht] at h; exact absurd h.1.1 (by simp)
        · exact h.elim
      | some ti => exact ok_store hT ht ha h
    · exact h.elim
  · rename_i x
    split at h
    · rename_i b off hx; exact ⟨_, _, _, h, ok_nilCheck hx (.inl ⟨_, _, rfl⟩)⟩
    · rename_i cs hx; exact ⟨_, _, _, h, ok_nilCheck hx (.inr (.inl ⟨_, rfl⟩))⟩
    · rename_i i cs hx; exact ⟨_, _, _, h, ok_nilCheck hx (.inr (.inr ⟨_, _, rfl⟩))⟩
    · exact h.elim
  · obtain ⟨v, hk, hs⟩ := ok_bin hT h; exact ⟨_, _, _, hk, hs⟩
  · obtain ⟨v, hk, hs⟩ := ok_un h; exact ⟨_, _, _, hk, hs⟩
  · rename_i src dst x
    split at h
    · rename_i kx n si ti hx h1 h2
      split at h
      · rename_i k0 kk e1 e2
        exact ⟨_, _, _, h, ok_convert hT h1 h2 e1 e2 hx⟩
      · exact h.elim
    · exact h.elim
  · rename_i fid first caps
    obtain ⟨h0, h⟩ := h
    split at h
    · rename_i e; exact ⟨_, _, _, h, ok_makeFunc (cs := []) h0 (by rw [e]; rfl)⟩
    · rename_i b off e; exact ⟨_, _, _, h, ok_makeFunc (cs := [(b, off)]) h0 (by rw [e]; rfl)⟩
    · rename_i b off b2 off2 e; exact ⟨_, _, _, h, ok_makeFunc (cs := [(b, off), (b2, off2)]) h0 (by rw [e]; rfl)⟩
    · exact h.elim
  · rename_i t l c
    split at h
    · rename_i k1 n k2 n2 ti hl hc ht
      split at h
      · rename_i e hk
        split at h
        · rename_i te hte
          obtain ⟨⟨rfl, h0, hb⟩, h⟩ := h
          exact ⟨_, _, _, h, ok_makeSlice hT ht hk hte hl hc h0 hb⟩
        · exact h.elim
      · exact h.elim
    · exact h.elim
  · rename_i t x lo hi
    split at h
    · rename_i ti ht
      split at h
      · rename_i e hk
        split at h
        · rename_i te hte
          obtain ⟨v, hk', hs⟩ := ok_cut (P := P) (f := f) (m := m) hT ht hk hte h
          exact ⟨_, _, _, hk', hs⟩
        · exact h.elim
      · exact h.elim
    · exact h.elim
  · rename_i s x j
    split at h
    · rename_i ti hs
      split at h
      · rename_i offs hk
        obtain ⟨o, sz, hj, h⟩ := h
        split at h
        · rename_i b off hx; exact ⟨_, _, _, h, ok_field hT hs hk hj hx⟩
        · rename_i cells hx; exact ⟨_, _, _, h, ok_fieldF hT hs hk hj hx⟩
        · exact h.elim
      · exact h.elim
    · exact h.elim
  · rename_i t x ix
    split at h
    · rename_i ti ht
      split at h
      · rename_i e hk
        split at h
        · rename_i te hte
          split at h
          · rename_i n cells kk i hx hi
            obtain ⟨⟨a, b, c⟩, h⟩ := h
            exact ⟨_, _, _, h, ok_index hT ht hk hte hx hi a b c⟩
          · rename_i b off n sz kk i hx hi
            obtain ⟨⟨a, b, c⟩, h⟩ := h
            exact ⟨_, _, _, h, ok_indexOwn hT ht hk hte hx hi b c⟩
          · exact h.elim
        · exact h.elim
      · rename_i n e hk
        split at h
        · rename_i te hte
          split at h
          · rename_i b off kk i hx hi
            obtain ⟨⟨a, b⟩, h⟩ := h
            exact ⟨_, _, _, h, ok_indexArr hT ht hk hte hx hi a b⟩
          · exact h.elim
        · exact h.elim
      · exact h.elim
    · exact h.elim
  · rename_i t x ix
    split at h
    · rename_i s kk i _ hx hi
      obtain ⟨b, h1, h2, h3, h⟩ := h
      exact ⟨_, _, _, h, ok_strIndex hx hi h1 h2 h3⟩
    · exact h.elim
  · rename_i x i
    split at h
    · rename_i vs hx
      obtain ⟨v, hv, h⟩ := h
      exact ⟨_, _, _, h, ok_extract hx hv⟩
    · exact h.elim
  · rename_i c
    split at h
    · rename_i b hb
      exact evalBuiltin_sound hT hb h
    · rename_i fo hfo
      split at h
      · rename_i fid caps hf
        rcases h with h | h
        · obtain ⟨R, W, vs, h, ha⟩ := args_ok _ _ h
          obtain ⟨lent, ⟨r, out, hfn, ⟨h1, h2, h3⟩, hk⟩, hl⟩ := lent_ok _ _ h
          exact ⟨_, _, _, hk, ok_call hfo hf ha hl hfn h1 h2 h3⟩
        · obtain ⟨lent, ⟨r, out, hfn, ⟨h1, h3⟩, hk⟩, hl⟩ := lend_ok _ _ h
          exact ⟨_, _, _, hk, by simpa using ok_call hfo hf (args_same _) hl hfn h1 (by simp) h3⟩
      · exact h.elim
    · exact h.elim
  · exact h.elim

end Go.Abs

set_option linter.unusedVariables false
set_option linter.unusedSimpArgs false
namespace Go.Abs
open Go

variable {P : Program} {T : Tab}

theorem foldl_take_succ {us : List Upd} {s : St} {i : Nat} {u : Upd} (h : us[i]? = some u) : (us.take (i + 1)).foldl St.apply s = ((us.take i).foldl St.apply s).apply u := by
  rw [List.take_add_one, h]
  simp

/-- Operation number i, from a state that agrees with s in what it reads. -/
def GoodStep (P : Program) (nt : Nat) (all : List Oper) (o : Oper) (i : Nat) (s : St) (u : Upd) (R : List Nat) (f : Nat) : Prop :=
  ∀ (C : Ctx) (Q : Exit → Act → World → Prop) (v : St) (A : Nat → Prop) (a : Act) (w : World), C.P = P → C.nt = nt → SimA C v A a w → (∀ t ∈ looks all o, v.get t = s.get t) → (∀ b ∈ R, v.blk b = s.blk b) → ¬ A f →
    wpOp P all.toArray Q i (fun a' w' => SimA C (v.apply u) (fun b => A b ∨ b = f) a' w') a w

theorem tmp_mem_looks {all : List Oper} {o : Oper} {t : Nat} (h : Operand.tmp t ∈ o.op.operands) : t ∈ looks all o := by
  unfold looks
  refine List.mem_append_left _ ?_
  rw [List.mem_filterMap]
  exact ⟨.tmp t, by simpa using h, rfl⟩

theorem guard_mem_looks {all : List Oper} {o : Oper} {j : Nat} {want : Bool} {t : Nat} (hg : o.guard = some (j, want)) (ht : (all[j]?).bind (·.dst) = some t) : t ∈ looks all o := by
  unfold looks
  refine List.mem_append_right _ ?_
  rw [hg]
  simp [ht]

theorem yielded_bool {all : List Oper} {tmps : Array Value} {j t : Nat} {b : Bool} (ht : (all[j]?).bind (·.dst) = some t) (h : tmps.getD t undef = .bool b) : yielded all.toArray tmps j = some b := by
  unfold yielded
  have : tmps[t]? = some (.bool b) := by
    simp only [Array.getD_eq_getD_getElem?] at h
    cases e : tmps[t]? with
    | none => rw [e] at h; cases h
    | some v => rw [e] at h; simp at h; rw [h]
  simp only [List.getElem?_toArray, ht, Option.bind_some, this]

theorem wantedOp {C : Ctx} {all : List Oper} {o : Oper} {i : Nat} {Q : Exit → Act → World → Prop} {K : Act → World → Prop} {a : Act} {w : World} (ho : all[i]? = some o) (hw : Region.wanted o (yielded all.toArray a.tmps) = true) (h : o.wp P a w K Q) :
    wpOp P all.toArray Q i K a w := by
  unfold wpOp
  simp only [List.getElem?_toArray, ho]
  rw [if_pos hw]
  exact .inl h

theorem goodStep_run (hT : TabOk P T) {nt : Nat} {all : List Oper} {o : Oper} {i f : Nat} {s : St} {k : List Nat → List (Nat × Option Blk) → V → Prop} (ho : all[i]? = some o) (hd : o.dst.getD 0 < nt)
    (hg : o.guard = none ∨ ∃ j want t, o.guard = some (j, want) ∧ (all[j]?).bind (·.dst) = some t ∧ s.get t = .d (.bool want))
    (h : evalOp P T f s.get s.blk o.op k) : ∃ R W v, k R W v ∧ GoodStep P nt all o i s ⟨W, o.dst.map (·, v)⟩ R f := by
  obtain ⟨R, W, v, hk, hs⟩ := evalOp_sound hT h
  refine ⟨R, W, v, hk, fun C Q u A a w hC hnt hS hl hR hA => ?_⟩
  have hwant : Region.wanted o (yielded all.toArray a.tmps) = true := by
    rcases hg with hg | ⟨j, want, t, hg, ht, hb⟩
    · simp [Region.wanted, hg]
    · obtain ⟨ok, β, hS⟩ := hS
      have := hS.env t _ rfl
      rw [hl t (guard_mem_looks hg ht), hb, rep_bool] at this
      simp [Region.wanted, hg, yielded_bool ht this]
  refine wantedOp (C := C) ho hwant ?_
  have := hs C u A a w o Q hC rfl hS (fun t ht => hl t (tmp_mem_looks ht)) hR hA (by rw [hnt]; exact hd)
  exact this

/-- The operations of a region, each from a state that agrees with the text's in what it reads. -/
def Runs (P : Program) (nt : Nat) (ops : List Oper) (s : St) (k : St → Trace → Prop) : Prop :=
  ∃ (us : List Upd) (trs : Trace), us.length = ops.length ∧ trs.length = ops.length ∧ k (us.foldl St.apply s) trs ∧
    ∀ (j : Nat) (o : Oper), ops[j]? = some o → ∃ u t, us[j]? = some u ∧ trs[j]? = some t ∧ GoodStep P nt ops o j ((us.take j).foldl St.apply s) u t.1 (s.next + j) ∧ u.w.map (·.1) = t.2 ∧ (∀ d v, u.dst = some (d, v) → o.dst = some d)

abbrev SimN (C : Ctx) (s : St) (a : Act) (w : World) : Prop := SimA C s (fun b => b < s.next) a w

/-- The state behind a region. -/
def St.up (s : St) (n : Nat) : St := { s with next := s.next + n }

theorem St.up_at (s : St) (n : Nat) (x : Loc) : (s.up n).at x = s.at x := by cases x <;> rfl

theorem foldl_next (us : List Upd) (s : St) : (us.foldl St.apply s).next = s.next := by
  induction us generalizing s with
  | nil => rfl
  | cons u us ih => simp [ih]; rfl

theorem stAfter_eq (us : List Upd) (s : St) : ∀ i, i ≤ us.length → stAfter (fun i => us.getD i ⟨[], none⟩) s (fun _ => true) i = (us.take i).foldl St.apply s := by
  intro i
  induction i with
  | zero => intro _; simp [stAfter]
  | succ i ih =>
    intro h
    simp only [stAfter, if_true, ih (by omega)]
    rw [foldl_take_succ (u := us[i]) (by simp [show i < us.length by omega])]
    congr 1
    simp [List.getD_eq_getElem?_getD, show i < us.length by omega]

/-- A region in the order of its text. -/
theorem region_seq {C : Ctx} (hC : C.P = P) {Q : Exit → Act → World → Prop} {ops : List Oper} {s : St} {k : St → Trace → Prop} {id : Nat} {a : Act} {w : World}
    (h : Runs P C.nt ops s k) (hS : SimN C s a w) (hk : ∀ s' tr, k s' tr → ∀ a' w', SimN C (s'.up ops.length) a' w' → Q .normal a' w') :
    (Code.region id ops.toArray false).wp P Q a w := by
  obtain ⟨us, trs, h1, h2, h3, h4⟩ := h
  refine wp_region ?_
  have key : ∀ d i, i + d = ops.length → ∀ a w, SimA C ((us.take i).foldl St.apply s) (fun b => b < s.next + i) a w → wpOps P ops.toArray Q (List.range' i d) a w := by
    intro d
    induction d with
    | zero =>
      intro i hi a w hS
      simp only [List.range'_zero, wpOps]
      refine hk _ _ h3 a w (hS.congr (fun x => ?_) (fun b hb => ?_))
      · rw [St.up_at, List.take_of_length_le (by omega)]
      · show b < (us.foldl St.apply s).next + ops.length
        rw [foldl_next]; omega
    | succ d ih =>
      intro i hi a w hS
      simp only [List.range'_succ]
      rw [wpOps_cons]
      obtain ⟨u, t, g1, g2, g3, g4, g5⟩ := h4 i (ops[i]'(by omega)) (by simp [show i < ops.length by omega])
      refine wpOp_mono (fun a' w' h' => ih (i + 1) (by omega) a' w' (h'.congr (fun x => ?_) (fun b hb => by omega))) (g3 C Q _ _ a w hC rfl hS (fun _ _ => rfl) (fun _ _ => rfl) (by omega))
      rw [foldl_take_succ g1]
  have := key ops.length 0 (by omega) a w (by simpa using hS)
  rw [show (List.range ops.toArray.size) = List.range' 0 ops.length by simp [List.range_eq_range']]
  exact this

theorem SimA.drawn {C : Ctx} {s : St} {A : Nat → Prop} {a : Act} {w : World} (h : SimA C s A a w) (n : Nat) : SimA C s A a { w with drawn := n } := by
  obtain ⟨ok, β, h⟩ := h
  exact ⟨ok, β, h.defers, h.nt, ⟨h.frame.os, h.frame.tape, h.frame.output, h.frame.size, h.frame.keep, h.frame.lo, h.frame.hi, h.frame.lt, h.frame.shape⟩, h.env, h.mem, h.inj, h.used, h.mused, h.ltd, h.lused⟩

/-- A region that draws its order. -/
theorem region_drawn {C : Ctx} (hC : C.P = P) (hm : P.follows .mixedOrders = true) {Q : Exit → Act → World → Prop} {ops : List Oper} {s : St} {k : St → Trace → Prop} {id : Nat} {a : Act} {w : World}
    (h : Runs P C.nt ops s (fun s' tr => indepB ops tr = true ∧ k s' tr)) (hS : SimN C s a w) (hk : ∀ s' tr, k s' tr → ∀ a' w', SimN C (s'.up ops.length) a' w' → Q .normal a' w') :
    (Code.region id ops.toArray true).wp P Q a w := by
  obtain ⟨us, trs, h1, h2, ⟨hind, h3⟩, h4⟩ := h
  subst hC
  refine wp_region_any hm (region_any (U := fun i => us.getD i ⟨[], none⟩) (tr := trs) (s := s) (base := s.next) (K := 1) (by simpa using hind) (fun i x hi hw => ?_) (fun i hi => ?_) (fun a w hS => ?_) ops.toArray.size _ a _ (by simp) ?_ ?_ ?_)
  · have hi' : i < ops.length := by simpa using hi
    obtain ⟨u, t, g1, g2, g3, g4, g5⟩ := h4 i ops[i] (by simp [hi'])
    have hu : us.getD i ⟨[], none⟩ = u := by simp [List.getD_eq_getElem?_getD, g1]
    simp only [hu]
    cases x with
    | t n =>
      simp only [Upd.at]
      split
      · rename_i d v hd
        split
        · rename_i e
          exfalso
          apply hw
          refine ⟨ops[i], by simp [hi'], ?_⟩
          rw [e]; exact g5 d v hd
        · rfl
      · rfl
    | b n =>
      simp only [Upd.at]
      rw [wval_none_of]; · rfl
      rw [g4]
      intro hmem
      exact hw ⟨t, by simpa using g2, hmem⟩
  · have hi' : i < ops.length := by simpa using hi
    obtain ⟨u, t, g1, g2, g3, g4, g5⟩ := h4 i ops[i] (by simp [hi'])
    have hu : us.getD i ⟨[], none⟩ = u := by simp [List.getD_eq_getElem?_getD, g1]
    intro v A a w hS hR hA
    rw [hu]
    have hst := stAfter_eq us s i (by omega)
    have := g3 C Q v A a w rfl rfl hS (fun t' ht => ?_) (fun b hb => ?_) (hA _ (by omega) (by omega))
    · exact wpOp_mono (fun a' w' h' => h'.congr (fun _ => rfl) (fun b hb => by
        rcases hb with hb | rfl
        · exact .inl hb
        · exact .inr ⟨by omega, by omega⟩)) this
    · have := hR (.t t') ⟨ops[i], by simp [hi'], by simpa using ht⟩
      rw [hst] at this
      simpa [St.at] using this
    · have := hR (.b b) ⟨t, by simpa using g2, hb⟩
      rw [hst] at this
      simpa [St.at] using this
  · have hst := stAfter_eq us s ops.toArray.size (by simp [h1])
    rw [hst] at hS
    refine hk _ _ h3 a w (hS.congr (fun x => ?_) (fun b hb => ?_))
    · rw [St.up_at, List.take_of_length_le (by simp [h1])]
    · show b < (us.foldl St.apply s).next + ops.length
      rw [foldl_next]; simp at hb; omega
  · rw [Array.toList_replicate, List.countP_replicate]; simp
  · intro j o ho hl
    simp [Array.getD] at hl
  · refine (hS.drawn _).congr (fun x => ?_) (fun b hb => .inl hb)
    have : ∀ m, stAfter (fun i => us.getD i ⟨[], none⟩) s (fun j => (Array.replicate ops.toArray.size false).getD j false) m = s := by
      intro m
      induction m with
      | zero => rfl
      | succ m ih =>
        simp only [stAfter]
        rw [if_neg (by simp [Array.getD]), ih]
    rw [this]

end Go.Abs
