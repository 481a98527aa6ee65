import Derived.WalkKit
import Derived.Orders
import Derived.Below
import Derived.Laws.AppendOwn
import Derived.Calls
import Derived.OpenShut
import Derived.ChangeArms
import Derived.ChangeShapes
import Derived.WideShapes
import Derived.KernelRfl
import Derived.JoinedOf
import Derived.Scope
import Derived.ProofKit
import Derived.ShutString
import Derived.ChangeOld
import Derived.SizedLaws
import Derived.Test.YtmlaakadkjmmfaaProg
import Derived.Test.YtmlaakadkjmmfaaEvalsx0
import Derived.Test.YtmlaakadkjmmfaaEvalsx1
import Derived.Test.YtmlaakadkjmmfaaEvalsx2
/- Texts that the proof of UnipolyEvals leans on: what is told of the functions it reaches. -/
set_option linter.unusedVariables false
set_option linter.unusedSimpArgs false
namespace Go.Abs
open Go Go.Proofs

theorem mulC_succ0 (f g : Nat → Int) (n : Nat) : mulC f g (n + 1) 0 = f 0 * g 0 := by
  induction n with
  | zero => simp [mulC]
  | succ n ih => rw [mulC, ih, if_neg (by omega)]; omega
theorem mulC_succ (f g : Nat → Int) (n k : Nat) : mulC f g (n + 1) (k + 1) = f 0 * g (k + 1) + mulC (fun i => f (i + 1)) g n k := by
  induction n with
  | zero => simp [mulC]
  | succ n ih =>
    rw [mulC, ih]
    simp only [mulC]
    rw [show k + 1 - (n + 1) = k - n by omega]
    by_cases h : n ≤ k
    · rw [if_pos (by omega), if_pos h]; omega
    · rw [if_neg (by omega), if_neg h]; omega
theorem cv_zero {f g : Nat → Int} (h : ∀ a, f a = 0) (k : Nat) : cv f g k = 0 := by
  induction k generalizing f with
  | zero => simp [cv, h]
  | succ k ih => rw [cv, ih (fun a => h _), h]; simp
theorem mulC_cv {f g : Nat → Int} {n : Nat} (h : ∀ a, n ≤ a → f a = 0) (k : Nat) : mulC f g n k = cv f g k := by
  induction k generalizing f n with
  | zero =>
    cases n with
    | zero => rw [cv_zero (fun a => h a (by omega))]; rfl
    | succ n => rw [mulC_succ0]; rfl
  | succ k ih =>
    cases n with
    | zero => rw [cv_zero (fun a => h a (by omega))]; rfl
    | succ n => rw [mulC_succ, cv, ih (fun a ha => h _ (by omega))]
end Go.Abs

set_option linter.unusedVariables false
set_option linter.unusedSimpArgs false
namespace Go.Abs
open Go Go.Proofs
set_option maxRecDepth 100000

/-- at most n coefficients of at most K digits -/
def Sz (n K : Nat) (ps : List RI) : Prop := ps.length ≤ n ∧ Pok K ps
theorem Sz.mono {n m K L : Nat} {ps : List RI} (h : Sz n K ps) (hn : n ≤ m) (hK : K ≤ L) : Sz m L ps := ⟨Nat.le_trans h.1 hn, pok_mono hK h.2⟩
theorem few_sz {a b : Nat} {ps : List RI} (hd : ∀ p ∈ ps, Dg p.2) (h : few a b ps = true) : Sz a b ps := by
  have := of_decide_eq_true h
  exact ⟨this.1, fun p hp => ⟨hd p hp, this.2 p hp⟩⟩
end Go.Abs

set_option linter.unusedVariables false
set_option linter.unusedSimpArgs false
namespace Go.Abs
open Go Go.Proofs
set_option maxRecDepth 100000

end Go.Abs

set_option linter.unusedVariables false
set_option linter.unusedSimpArgs false
namespace Go.Abs

/-! ### Polynomials in one variable with whole coefficients -/
structure Poly where
  c : Nat → Int
  fin : ∃ n, ∀ k, n ≤ k → c k = 0
namespace Poly

theorem ext_c {f g : Poly} (h : ∀ k, f.c k = g.c k) : f = g := by
  obtain ⟨a, ha⟩ := f
  obtain ⟨b, hb⟩ := g
  have : a = b := funext h
  subst this
  rfl

def evn (c : Nat → Int) : Nat → Int → Int
  | 0, _ => 0
  | n + 1, x => c 0 + x * evn (fun k => c (k + 1)) n x
theorem evn_van {x : Int} : ∀ {n : Nat} {c : Nat → Int}, (∀ k, k < n → c k = 0) → evn c n x = 0
  | 0, c, _ => rfl
  | n + 1, c, h => by
    rw [evn, h 0 (by omega), evn_van (fun k hk => h (k + 1) (by omega))]; simp
theorem evn_more {x : Int} : ∀ {n m : Nat} {c : Nat → Int}, n ≤ m → (∀ k, n ≤ k → c k = 0) → evn c m x = evn c n x
  | 0, m, c, _, h => evn_van fun k _ => h k (by omega)
  | n + 1, 0, c, hm, _ => by omega
  | n + 1, m + 1, c, hm, h => by
    rw [evn, evn, evn_more (n := n) (by omega) fun k hk => h (k + 1) (by omega)]
theorem evn_same {x : Int} {n m : Nat} {c : Nat → Int} (hn : ∀ k, n ≤ k → c k = 0) (hm : ∀ k, m ≤ k → c k = 0) : evn c n x = evn c m x := by
  rcases Nat.le_total n m with h | h
  · exact (evn_more h hn).symm
  · exact evn_more h hm
theorem evn_add {x : Int} : ∀ (n : Nat) (c d : Nat → Int), evn (fun k => c k + d k) n x = evn c n x + evn d n x
  | 0, c, d => rfl
  | n + 1, c, d => by rw [evn, evn, evn, evn_add n]; grind
theorem evn_scale {x a : Int} : ∀ (n : Nat) (c : Nat → Int), evn (fun k => a * c k) n x = a * evn c n x
  | 0, c => by simp [evn]
  | n + 1, c => by rw [evn, evn, evn_scale n]; grind
theorem evn_mul {x : Int} {m : Nat} {d : Nat → Int} (hd : ∀ k, m ≤ k → d k = 0) : ∀ (n : Nat) (c : Nat → Int), (∀ k, n ≤ k → c k = 0) → ∀ N, n + m ≤ N → evn (cv c d) N x = evn c n x * evn d m x
  | 0, c, hc, N, hN => by
    rw [evn_van (fun k _ => ?_)]
    · simp [evn]
    · have h0 : ∀ a, c a = 0 := fun a => hc a (by omega)
      clear hc
      induction k generalizing c with
      | zero => simp [cv, h0]
      | succ k ih => rw [cv, h0, ih _ (by omega) (fun a => h0 _)]; simp
  | n + 1, c, hc, 0, hN => by omega
  | n + 1, c, hc, N + 1, hN => by
    have ih := evn_mul (x := x) hd n (fun k => c (k + 1)) (fun k hk => hc _ (by omega)) N (by omega)
    have e : evn d m x = d 0 + x * evn (fun k => d (k + 1)) N x := by
      rw [← evn_more (m := N + 1) (by omega) hd, evn]
    rw [evn]
    have e2 : (fun k => cv c d (k + 1)) = fun k => c 0 * d (k + 1) + cv (fun i => c (i + 1)) d k := rfl
    have e3 := evn_add (x := x) N (fun k => c 0 * d (k + 1)) (cv (fun i => c (i + 1)) d)
    have e4 := evn_scale (x := x) (a := c 0) N (fun k => d (k + 1))
    rw [e2, e3, e4, ih, evn, e]
    simp only [cv]
    grind
theorem evn_inj : ∀ {n : Nat} {c : Nat → Int}, (∀ x : Int, 1 ≤ x → evn c n x = 0) → ∀ k, k < n → c k = 0
  | 0, c, _, k, hk => by omega
  | n + 1, c, h, k, hk => by
    have h0 : c 0 = 0 := by
      have := h (((c 0).natAbs : Nat) + 1) (by omega)
      rw [evn] at this
      have hd : (((c 0).natAbs : Nat) : Int) + 1 ∣ c 0 := ⟨-(evn (fun k => c (k + 1)) n (((c 0).natAbs : Nat) + 1)), by grind⟩
      by_cases e : c 0 = 0
      · exact e
      · have := Nat.le_of_dvd (by omega) (Int.natAbs_dvd_natAbs.2 hd); omega
    cases k with
    | zero => exact h0
    | succ k =>
      refine evn_inj (n := n) (c := fun k => c (k + 1)) (fun x hx => ?_) k (by omega)
      have := h x hx
      rw [evn, h0, Int.zero_add] at this
      rcases Int.mul_eq_zero.1 this with h1 | h1
      · omega
      · exact h1

/-- the value at a whole number -/
noncomputable def ev (f : Poly) (x : Int) : Int := evn f.c f.fin.choose x
theorem ev_eq {f : Poly} {n : Nat} (h : ∀ k, n ≤ k → f.c k = 0) (x : Int) : f.ev x = evn f.c n x := evn_same f.fin.choose_spec h
theorem ext_ev {f g : Poly} (h : ∀ x, 1 ≤ x → f.ev x = g.ev x) : f = g := by
  obtain ⟨n, hn⟩ := f.fin
  obtain ⟨m, hm⟩ := g.fin
  refine ext_c fun k => ?_
  have key := evn_inj (n := max n m + k + 1) (c := fun k => f.c k + (-1) * g.c k) (fun x hx => by
    rw [evn_add, evn_scale, ← ev_eq (f := f) (fun k hk => hn k (by omega)), ← ev_eq (f := g) (fun k hk => hm k (by omega)), h x hx]; omega) k (by omega)
  have key2 : f.c k + (-1) * g.c k = 0 := key
  omega

instance : Add Poly := ⟨fun f g => ⟨fun k => f.c k + g.c k, by
  obtain ⟨n, hn⟩ := f.fin
  obtain ⟨m, hm⟩ := g.fin
  exact ⟨max n m, fun k hk => by rw [hn k (by omega), hm k (by omega)]; rfl⟩⟩⟩
instance : Neg Poly := ⟨fun f => ⟨fun k => - f.c k, by
  obtain ⟨n, hn⟩ := f.fin
  exact ⟨n, fun k hk => by rw [hn k hk]; rfl⟩⟩⟩
instance : Sub Poly := ⟨fun f g => ⟨fun k => f.c k - g.c k, by
  obtain ⟨n, hn⟩ := f.fin
  obtain ⟨m, hm⟩ := g.fin
  exact ⟨max n m, fun k hk => by rw [hn k (by omega), hm k (by omega)]; rfl⟩⟩⟩
theorem cvz {c d : Nat → Int} (h : ∀ a, c a = 0) (k : Nat) : cv c d k = 0 := by
  induction k generalizing c with
  | zero => simp [cv, h]
  | succ k ih => rw [cv, ih (fun a => h _), h]; simp
theorem cv_fin {c d : Nat → Int} {n m : Nat} (hc : ∀ k, n ≤ k → c k = 0) (hd : ∀ k, m ≤ k → d k = 0) : ∀ k, n + m ≤ k + 1 → cv c d k = 0 := by
  intro k
  induction n generalizing c k with
  | zero =>
    intro _
    exact cvz (fun a => hc a (by omega)) k
  | succ n ih =>
    intro hk
    cases k with
    | zero =>
      rw [cv]
      by_cases e : m = 0
      · rw [hd 0 (by omega)]; simp
      · omega
    | succ k =>
      rw [cv, hd (k + 1) (by omega), ih (c := fun i => c (i + 1)) (fun j hj => hc _ (by omega)) k (by omega)]; simp
instance : Mul Poly := ⟨fun f g => ⟨cv f.c g.c, by
  obtain ⟨n, hn⟩ := f.fin
  obtain ⟨m, hm⟩ := g.fin
  exact ⟨n + m, fun k hk => cv_fin hn hm k (by omega)⟩⟩⟩
def C (a : Int) : Poly := ⟨fun k => if k = 0 then a else 0, 1, fun k hk => by simp; omega⟩
def X : Poly := ⟨fun k => if k = 1 then 1 else 0, 2, fun k hk => by simp; omega⟩
instance : OfNat Poly 0 := ⟨C 0⟩
instance : OfNat Poly 1 := ⟨C 1⟩
theorem add_c (f g : Poly) (k : Nat) : (f + g).c k = f.c k + g.c k := rfl
theorem sub_c (f g : Poly) (k : Nat) : (f - g).c k = f.c k - g.c k := rfl
theorem neg_c (f : Poly) (k : Nat) : (-f).c k = - f.c k := rfl
theorem mul_c (f g : Poly) (k : Nat) : (f * g).c k = cv f.c g.c k := rfl
theorem zero_c (k : Nat) : (0 : Poly).c k = 0 := by show (if k = 0 then (0 : Int) else 0) = 0; simp
theorem C_c (a : Int) (k : Nat) : (C a).c k = if k = 0 then a else 0 := rfl
@[simp] theorem ev_add (f g : Poly) (x : Int) : (f + g).ev x = f.ev x + g.ev x := by
  obtain ⟨n, hn⟩ := f.fin
  obtain ⟨m, hm⟩ := g.fin
  rw [ev_eq (f := f) (n := max n m) (fun k hk => hn k (by omega)), ev_eq (f := g) (n := max n m) (fun k hk => hm k (by omega)), ev_eq (f := f + g) (n := max n m) (fun k hk => by rw [add_c, hn k (by omega), hm k (by omega)]; rfl)]
  exact evn_add _ _ _
@[simp] theorem ev_neg (f : Poly) (x : Int) : (-f).ev x = - f.ev x := by
  obtain ⟨n, hn⟩ := f.fin
  rw [ev_eq (f := f) hn, ev_eq (f := -f) (n := n) (fun k hk => by rw [neg_c, hn k (by omega)]; rfl)]
  have := evn_scale (x := x) (a := -1) n f.c
  rw [show (fun k => -1 * f.c k) = (-f).c from funext fun k => by rw [neg_c]; omega] at this
  omega
@[simp] theorem ev_sub (f g : Poly) (x : Int) : (f - g).ev x = f.ev x - g.ev x := by
  have : f - g = f + -g := ext_c fun k => by rw [sub_c, add_c, neg_c]; omega
  rw [this, ev_add, ev_neg]; omega
@[simp] theorem ev_mul (f g : Poly) (x : Int) : (f * g).ev x = f.ev x * g.ev x := by
  obtain ⟨n, hn⟩ := f.fin
  obtain ⟨m, hm⟩ := g.fin
  rw [ev_eq hn, ev_eq hm, ev_eq (f := f * g) (n := n + m) (fun k hk => cv_fin hn hm k (by omega))]
  exact evn_mul hm n _ hn _ (Nat.le_refl _)
@[simp] theorem ev_C (a x : Int) : (C a).ev x = a := by
  rw [ev_eq (n := 1) (fun k hk => by rw [C_c, if_neg (by omega)])]
  simp [evn, C_c]
@[simp] theorem ev_zero (x : Int) : (0 : Poly).ev x = 0 := ev_C 0 x
@[simp] theorem ev_one (x : Int) : (1 : Poly).ev x = 1 := ev_C 1 x
@[simp] theorem ev_X (x : Int) : X.ev x = x := by
  rw [ev_eq (n := 2) (fun k hk => by show (if k = 1 then (1 : Int) else 0) = 0; rw [if_neg (by omega)])]
  simp [evn, X]

/-! ### Size: the number of coefficients up to the last that is not 0 -/
def top (c : Nat → Int) : Nat → Nat
  | 0 => 0
  | n + 1 => if c n = 0 then top c n else n + 1
theorem top_above {c : Nat → Int} : ∀ {n k : Nat}, (∀ j, n ≤ j → c j = 0) → top c n ≤ k → c k = 0
  | 0, k, h, _ => h k (by omega)
  | n + 1, k, h, hk => by
    unfold top at hk
    split at hk
    · rename_i h0
      refine top_above (n := n) (fun j hj => ?_) hk
      by_cases e : j = n
      · subst e; exact h0
      · exact h j (by omega)
    · exact h k (by omega)
theorem top_ne {c : Nat → Int} : ∀ {n : Nat}, 0 < top c n → c (top c n - 1) ≠ 0
  | 0, h => by simp [top] at h
  | n + 1, h => by
    unfold top at h ⊢
    split
    · rename_i e; rw [if_pos e] at h; exact top_ne h
    · rename_i e; simpa using e
noncomputable def sz (f : Poly) : Nat := top f.c f.fin.choose
theorem above {f : Poly} {k : Nat} (h : f.sz ≤ k) : f.c k = 0 := top_above f.fin.choose_spec h
theorem last {f : Poly} (h : 0 < f.sz) : f.c (f.sz - 1) ≠ 0 := top_ne h
theorem sz_le {f : Poly} {n : Nat} (h : ∀ k, n ≤ k → f.c k = 0) : f.sz ≤ n := by
  rcases Nat.lt_or_ge n f.sz with h1 | h1
  · exact absurd (h _ (by omega)) (last (by omega))
  · exact h1
theorem lt_sz {f : Poly} {n : Nat} (h : f.c n ≠ 0) : n < f.sz := by
  rcases Nat.lt_or_ge n f.sz with h1 | h1
  · exact h1
  · exact absurd (above h1) h
theorem sz_eq {f : Poly} {n : Nat} (h : f.c n ≠ 0) (h2 : ∀ k, n < k → f.c k = 0) : f.sz = n + 1 := by
  have := lt_sz h
  have := sz_le (f := f) (n := n + 1) (fun k hk => h2 k (by omega))
  omega
noncomputable def lc (f : Poly) : Int := f.c (f.sz - 1)
theorem sz_zero : (0 : Poly).sz = 0 := Nat.le_zero.1 (sz_le fun k _ => zero_c k)
theorem eq_zero {f : Poly} : f = 0 ↔ f.sz = 0 := ⟨fun h => by rw [h, sz_zero], fun h => ext_c fun k => by rw [zero_c]; exact above (by omega)⟩
theorem lc_ne {f : Poly} (h : f ≠ 0) : f.lc ≠ 0 := last (Nat.pos_of_ne_zero fun e => h (eq_zero.2 e))
theorem sz_pos {f : Poly} (h : f ≠ 0) : 0 < f.sz := Nat.pos_of_ne_zero fun e => h (eq_zero.2 e)
theorem cv_low {c d : Nat → Int} {n m : Nat} (hc : ∀ k, n < k → c k = 0) (hd : ∀ k, m < k → d k = 0) : cv c d (n + m) = c n * d m := by
  induction n generalizing c with
  | zero =>
    rw [Nat.zero_add]
    cases m with
    | zero => rfl
    | succ m => rw [cv, cvz (fun k => hc (k + 1) (by omega))]; omega
  | succ n ih =>
    rw [show n + 1 + m = (n + m) + 1 by omega, cv, hd (n + m + 1) (by omega), ih (c := fun i => c (i + 1)) (fun k hk => hc _ (by omega))]
    omega
theorem mul_top {f g : Poly} (hf : f ≠ 0) (hg : g ≠ 0) : (f * g).c (f.sz - 1 + (g.sz - 1)) = f.lc * g.lc :=
  cv_low (fun k hk => above (by have := sz_pos hf; omega)) (fun k hk => above (by have := sz_pos hg; omega))
theorem sz_mul {f g : Poly} (hf : f ≠ 0) (hg : g ≠ 0) : (f * g).sz = f.sz + g.sz - 1 := by
  have h1 := mul_top hf hg
  have a := sz_pos hf
  have b := sz_pos hg
  have h2 := sz_eq (f := f * g) (n := f.sz - 1 + (g.sz - 1)) (by rw [h1]; exact Int.mul_ne_zero (lc_ne hf) (lc_ne hg))
    (fun k hk => cv_fin (fun _ h => above h) (fun _ h => above h) k (by omega))
  omega
theorem mul_ne {f g : Poly} (hf : f ≠ 0) (hg : g ≠ 0) : f * g ≠ 0 := fun e => by
  have h := sz_mul hf hg
  have a := sz_pos hf
  have b := sz_pos hg
  rw [e, sz_zero] at h
  omega
theorem mul_eq_zero {f g : Poly} (h : f * g = 0) : f = 0 ∨ g = 0 := by
  by_cases hf : f = 0
  · exact .inl hf
  · by_cases hg : g = 0
    · exact .inr hg
    · exact absurd h (mul_ne hf hg)
theorem sz_C {a : Int} (h : a ≠ 0) : (C a).sz = 1 := sz_eq (n := 0) (by simpa [C_c] using h) (fun k hk => by rw [C_c, if_neg (by omega)])
theorem C_ne {a : Int} (h : a ≠ 0) : C a ≠ 0 := fun e => by have := sz_C h; rw [e, sz_zero] at this; omega
theorem sz_add (f g : Poly) : (f + g).sz ≤ max f.sz g.sz := sz_le fun k hk => by rw [add_c, above (by omega), above (by omega)]; rfl
theorem sz_sub (f g : Poly) : (f - g).sz ≤ max f.sz g.sz := sz_le fun k hk => by rw [sub_c, above (by omega), above (by omega)]; rfl
theorem Cmul_c (a : Int) (f : Poly) (k : Nat) : (C a * f).c k = a * f.c k := by
  rw [mul_c, cv_comm]
  cases k with
  | zero => simp [cv, C_c, Int.mul_comm]
  | succ k =>
    rw [cv_right]
    have : cv f.c (fun i => (C a).c (i + 1)) k = 0 := by
      rw [cv_comm]; exact cvz (fun i => by rw [C_c, if_neg (by omega)]) k
    rw [this, C_c, if_pos rfl, Int.mul_comm]; omega
end Poly
end Go.Abs

set_option linter.unusedVariables false
set_option linter.unusedSimpArgs false
namespace Go.Abs

theorem ncd {m : Nat} {z : Int} : (m : Int) ∣ z ↔ m ∣ z.natAbs := by rw [← Int.natAbs_dvd_natAbs, Int.natAbs_natCast]
/-! ### Primes -/
def Prm (p : Nat) : Prop := 2 ≤ p ∧ ∀ a b : Nat, p ∣ a * b → p ∣ a ∨ p ∣ b
theorem Prm.int {p : Nat} (hp : Prm p) {a b : Int} (h : (p : Int) ∣ a * b) : (p : Int) ∣ a ∨ (p : Int) ∣ b := by
  have := Int.natAbs_dvd_natAbs.2 h
  rw [Int.natAbs_mul, Int.natAbs_natCast] at this
  rcases hp.2 _ _ this with h1 | h1
  · exact .inl (ncd.2 h1)
  · exact .inr (ncd.2 h1)

namespace Poly
/-! ### Content -/
theorem first_not {Q : Nat → Prop} (h : ¬ ∀ k, Q k) : ∃ i, ¬ Q i ∧ ∀ k, k < i → Q k := by
  have h : ∃ i, ¬ Q i := Classical.byContradiction fun hc => h fun k => Classical.byContradiction fun hk => hc ⟨k, hk⟩
  obtain ⟨n, hn⟩ := h
  induction n using Nat.strongRecOn with
  | _ n ih =>
    by_cases hm : ∀ k, k < n → Q k
    · exact ⟨n, hn, hm⟩
    · have : ∃ k, k < n ∧ ¬ Q k := Classical.byContradiction fun hc => hm fun k hk => Classical.byContradiction fun h2 => hc ⟨k, hk, h2⟩
      obtain ⟨k, h1, h2⟩ := this
      exact ih k h1 h2
/-! ### Divisibility -/
/-- over the whole numbers -/
def Dv (g f : Poly) : Prop := ∃ q, f = q * g
/-- over the fractions -/
def Dq (g f : Poly) : Prop := ∃ a : Int, a ≠ 0 ∧ Dv g (C a * f)
theorem Dv.dq {f g : Poly} (h : Dv g f) : Dq g f := ⟨1, by decide, by
  obtain ⟨q, rfl⟩ := h
  exact ⟨q, ext_ev fun x _ => by simp⟩⟩
end Poly
end Go.Abs

set_option linter.unusedVariables false
set_option linter.unusedSimpArgs false
namespace Go.Abs
namespace Poly

theorem congr_ev {f g : Poly} (h : f = g) (x : Int) : f.ev x = g.ev x := by rw [h]
/-- X to a power -/
def Xp (n : Nat) : Poly := ⟨fun k => if k = n then 1 else 0, n + 1, fun k hk => by rw [if_neg (by omega)]⟩
theorem Xp_mul_c (n : Nat) (f : Poly) (k : Nat) : (Xp n * f).c k = if n ≤ k then f.c (k - n) else 0 := by
  rw [mul_c]
  have gen : ∀ (n k : Nat) (a : Nat → Int), (∀ j, a j = if j = n then 1 else 0) → cv a f.c k = if n ≤ k then f.c (k - n) else 0 := by
    intro n
    induction n with
    | zero =>
      intro k a ha
      cases k with
      | zero => rw [cv, ha]; simp
      | succ k => rw [cv, ha, cvz (fun j => by rw [ha, if_neg (by omega)])]; simp
    | succ n ih =>
      intro k a ha
      cases k with
      | zero => rw [cv, ha, if_neg (by omega), if_neg (by omega)]; simp
      | succ k =>
        rw [cv, ha, if_neg (by omega), ih k (fun i => a (i + 1)) (fun j => by rw [ha]; by_cases e : j = n <;> simp [e])]
        by_cases h : n ≤ k
        · rw [if_pos h, if_pos (by omega), show k + 1 - (n + 1) = k - n by omega]; simp
        · rw [if_neg h, if_neg (by omega)]; simp
  exact gen n k _ (fun j => rfl)
theorem sz_Cmul {a : Int} (h : a ≠ 0) (f : Poly) : (C a * f).sz = f.sz := by
  by_cases hf : f = 0
  · subst hf
    rw [show C a * (0 : Poly) = 0 from ext_ev fun x _ => by simp]
  · rw [sz_mul (C_ne h) hf, sz_C h]; omega
/-- one step down: the last coefficient goes -/
theorem step_down {f g : Poly} (hg : g ≠ 0) (h : g.sz ≤ f.sz) : (C g.lc * f - C f.lc * (Xp (f.sz - g.sz) * g)).sz < f.sz := by
  have hp := sz_pos hg
  have := sz_le (f := C g.lc * f - C f.lc * (Xp (f.sz - g.sz) * g)) (n := f.sz - 1) fun k hk => by
    rw [sub_c, Cmul_c, Cmul_c, Xp_mul_c]
    by_cases e : k = f.sz - 1
    · subst e
      rw [if_pos (by omega), show f.sz - 1 - (f.sz - g.sz) = g.sz - 1 by omega]
      show g.lc * f.lc - f.lc * g.lc = 0
      rw [Int.mul_comm]; omega
    · rw [above (f := f) (by omega)]
      by_cases h2 : f.sz - g.sz ≤ k
      · rw [if_pos h2, above (f := g) (by omega)]; simp
      · rw [if_neg h2]; simp
  omega
theorem pdiv (g : Poly) (hg : g ≠ 0) : ∀ (n : Nat) (f : Poly), f.sz ≤ n → ∃ (a : Int) (q r : Poly), a ≠ 0 ∧ C a * f = q * g + r ∧ r.sz < g.sz
  | 0, f, h => ⟨1, 0, f, by decide, ext_ev fun x _ => by simp, by have := sz_pos hg; omega⟩
  | n + 1, f, h => by
    by_cases hl : f.sz < g.sz
    · exact ⟨1, 0, f, by decide, ext_ev fun x _ => by simp, hl⟩
    have h1 := step_down hg (f := f) (by omega)
    obtain ⟨a, q, r, ha, he, hr⟩ := pdiv g hg n _ (Nat.le_of_lt_succ (Nat.lt_of_lt_of_le h1 h))
    refine ⟨a * g.lc, q + C (a * f.lc) * Xp (f.sz - g.sz), r, Int.mul_ne_zero ha (lc_ne hg), ext_ev fun x _ => ?_, hr⟩
    have := congr_ev he x
    simp at this ⊢
    grind

/-- a greatest common divisor over the fractions -/
structure Gq (f g d : Poly) : Prop where
  l : Dq d f
  r : Dq d g
  b : ∃ (u v : Poly) (a : Int), a ≠ 0 ∧ C a * d = u * f + v * g

theorem Dq.refl (f : Poly) : Dq f f := ⟨1, by decide, C 1, rfl⟩
theorem Dq.trans {f g h : Poly} (a : Dq f g) (b : Dq g h) : Dq f h := by
  obtain ⟨x, hx, p, hp⟩ := a
  obtain ⟨y, hy, q, hq⟩ := b
  refine ⟨x * y, Int.mul_ne_zero hx hy, q * p, ext_ev fun t _ => ?_⟩
  have h1 := congr_ev hp t
  have h2 := congr_ev hq t
  simp at h1 h2 ⊢
  grind
theorem Dq.zero (f : Poly) : Dq f 0 := ⟨1, by decide, 0, ext_ev fun x _ => by simp⟩
theorem Dq.add {d f g : Poly} (a : Dq d f) (b : Dq d g) : Dq d (f + g) := by
  obtain ⟨x, hx, p, hp⟩ := a
  obtain ⟨y, hy, q, hq⟩ := b
  refine ⟨x * y, Int.mul_ne_zero hx hy, C y * p + C x * q, ext_ev fun t _ => ?_⟩
  have h1 := congr_ev hp t
  have h2 := congr_ev hq t
  simp at h1 h2 ⊢
  grind
theorem Dq.mul {d f : Poly} (g : Poly) (a : Dq d f) : Dq d (g * f) := by
  obtain ⟨x, hx, p, hp⟩ := a
  refine ⟨x, hx, g * p, ext_ev fun t _ => ?_⟩
  have h1 := congr_ev hp t
  simp at h1 ⊢
  grind
theorem Dq.scale {d f : Poly} {a : Int} (ha : a ≠ 0) : Dq d (C a * f) ↔ Dq d f := by
  constructor
  · rintro ⟨x, hx, p, hp⟩
    refine ⟨x * a, Int.mul_ne_zero hx ha, p, ext_ev fun t _ => ?_⟩
    have h1 := congr_ev hp t
    simp at h1 ⊢
    grind
  · exact Dq.mul _
theorem Dq.scalel {d f : Poly} {a : Int} (ha : a ≠ 0) : Dq (C a * d) f ↔ Dq d f := by
  constructor
  · rintro ⟨x, hx, p, hp⟩
    refine ⟨x, hx, C a * p, ext_ev fun t _ => ?_⟩
    have h1 := congr_ev hp t
    simp at h1 ⊢
    grind
  · rintro ⟨x, hx, p, hp⟩
    refine ⟨x * a, Int.mul_ne_zero hx ha, p, ext_ev fun t _ => ?_⟩
    have h1 := congr_ev hp t
    simp at h1 ⊢
    grind
theorem Dq.sz {d f : Poly} (h : Dq d f) (hf : f ≠ 0) : d.sz ≤ f.sz := by
  obtain ⟨a, ha, q, hq⟩ := h
  have h1 : C a * f ≠ 0 := mul_ne (C_ne ha) hf
  have hq0 : q ≠ 0 := fun e => h1 (by rw [hq, e]; exact ext_ev fun x _ => by simp)
  have hd0 : d ≠ 0 := fun e => h1 (by rw [hq, e]; exact ext_ev fun x _ => by simp)
  have := sz_mul hq0 hd0
  rw [← hq, sz_Cmul ha] at this
  have := sz_pos hq0
  omega
theorem Gq.zero (f : Poly) : Gq f 0 f := ⟨Dq.refl f, Dq.zero f, 1, 0, 1, by decide, ext_ev fun x _ => by simp⟩
/-- a division's step -/
theorem Gq.step {f g q r d : Poly} {a b : Int} (ha : a ≠ 0) (hb : b ≠ 0) (e : C a * f = q * g + C b * r) (h : Gq g r d) : Gq f g d := by
  refine ⟨?_, h.l, ?_⟩
  · rw [← Dq.scale ha, e]
    exact (h.l.mul q).add (h.r.mul _)
  · obtain ⟨u, v, c, hc, hb2⟩ := h.b
    refine ⟨C a * v, C b * u - q * v, b * c, Int.mul_ne_zero hb hc, ext_ev fun x _ => ?_⟩
    have h1 := congr_ev e x
    have h2 := congr_ev hb2 x
    simp at h1 h2 ⊢
    grind
theorem Gq.scale {f g d : Poly} {a b c : Int} (ha : a ≠ 0) (hb : b ≠ 0) (hc : c ≠ 0) : Gq (C a * f) (C b * g) (C c * d) ↔ Gq f g d := by
  constructor
  · rintro ⟨h1, h2, u, v, x, hx, e⟩
    refine ⟨(Dq.scalel hc).1 ((Dq.scale ha).1 h1), (Dq.scalel hc).1 ((Dq.scale hb).1 h2), C a * u, C b * v, x * c, Int.mul_ne_zero hx hc, ext_ev fun t _ => ?_⟩
    have := congr_ev e t
    simp at this ⊢
    grind
  · rintro ⟨h1, h2, u, v, x, hx, e⟩
    refine ⟨(Dq.scalel hc).2 ((Dq.scale ha).2 h1), (Dq.scalel hc).2 ((Dq.scale hb).2 h2), C (c * b) * u, C (c * a) * v, x * a * b, Int.mul_ne_zero (Int.mul_ne_zero hx ha) hb, ext_ev fun t _ => ?_⟩
    have := congr_ev e t
    simp at this ⊢
    grind
theorem Gq.ex : ∀ (n : Nat) (f g : Poly), g.sz ≤ n → ∃ d, Gq f g d
  | 0, f, g, h => by
    have := eq_zero.2 (Nat.le_zero.1 h)
    subst this
    exact ⟨f, Gq.zero f⟩
  | n + 1, f, g, h => by
    by_cases hg : g = 0
    · subst hg; exact ⟨f, Gq.zero f⟩
    obtain ⟨a, q, r, ha, e, hr⟩ := pdiv g hg f.sz f (Nat.le_refl _)
    obtain ⟨d, hd⟩ := Gq.ex n g r (by omega)
    exact ⟨d, hd.step (q := q) ha (b := 1) (by decide) (by rw [e]; exact ext_ev fun x _ => by simp)⟩
end Poly
end Go.Abs

set_option linter.unusedVariables false
set_option linter.unusedSimpArgs false
namespace Go.Abs
open Poly

/-- a list of coefficients as a polynomial -/
def polL (l : List Int) : Poly := ⟨fun k => l.getD k 0, l.length, fun k hk => by rw [List.getD_eq_getElem?_getD, List.getElem?_eq_none hk]; rfl⟩
/-- the coefficients of a polynomial -/
noncomputable def cs (f : Poly) : List Int := (List.range f.sz).map f.c
theorem polL_c (l : List Int) (k : Nat) : (polL l).c k = l.getD k 0 := rfl
@[simp] theorem cs_len (f : Poly) : (cs f).length = f.sz := by simp [cs]
theorem cs_get (f : Poly) (k : Nat) (h : k < f.sz) : (cs f)[k]? = some (f.c k) := by simp [cs, h]
theorem cs_getD (f : Poly) (k : Nat) : (cs f).getD k 0 = f.c k := by
  rw [List.getD_eq_getElem?_getD]
  rcases Nat.lt_or_ge k f.sz with h | h
  · rw [cs_get f k h]; rfl
  · rw [List.getElem?_eq_none (by simpa using h), above h]; rfl
theorem polL_cs (f : Poly) : polL (cs f) = f := ext_c fun k => cs_getD f k
theorem cut_cs {l : List Int} {n : Nat} (hn : n ≤ l.length) (hz : ∀ k x, n ≤ k → l[k]? = some x → x = 0) (ht : n = 0 ∨ ∃ x, l[n - 1]? = some x ∧ x ≠ 0) : l.take n = cs (polL l) := by
  have hs : (polL l).sz = n := by
    have h1 : (polL l).sz ≤ n := sz_le fun k hk => by
      rw [polL_c, List.getD_eq_getElem?_getD]
      cases e : l[k]? with
      | none => rfl
      | some x => exact hz k x hk e
    rcases ht with rfl | ⟨x, hx, h0⟩
    · omega
    · have := lt_sz (f := polL l) (n := n - 1) (by rw [polL_c, List.getD_eq_getElem?_getD, hx]; exact h0)
      omega
  apply List.ext_getElem?
  intro k
  rw [List.getElem?_take]
  by_cases hk : k < n
  · rw [if_pos hk, cs_get _ _ (by omega), polL_c, List.getD_eq_getElem?_getD]
    obtain ⟨x, hx⟩ : ∃ x, l[k]? = some x := ⟨l[k]'(by omega), by simp⟩
    rw [hx]; rfl
  · rw [if_neg hk, List.getElem?_eq_none (by simp; omega)]
theorem polL_nil : polL [] = 0 := ext_c fun k => by rw [zero_c]; simp [polL_c]
/-- small coefficients -/
abbrev Bz (K : Nat) (l : List Int) : Prop := ∀ z ∈ l, z.natAbs < 2 ^ K
theorem Bz.getD {K : Nat} {l : List Int} (h : Bz K l) (k : Nat) : (l.getD k 0).natAbs < 2 ^ K := by
  rw [List.getD_eq_getElem?_getD]
  cases e : l[k]? with
  | none => simp; exact Nat.pow_pos (by omega)
  | some x => exact h x (List.mem_of_getElem? e)
theorem Bz.cs {K : Nat} {f : Poly} (h : ∀ k, (f.c k).natAbs < 2 ^ K) : Bz K (cs f) := fun z hz => by
  simp only [Go.Abs.cs, List.mem_map] at hz
  obtain ⟨k, _, rfl⟩ := hz
  exact h k
theorem Bz.c {K : Nat} {f : Poly} (h : Bz K (Go.Abs.cs f)) (k : Nat) : (f.c k).natAbs < 2 ^ K := by rw [← cs_getD]; exact h.getD k
end Go.Abs

set_option linter.unusedVariables false
set_option linter.unusedSimpArgs false
namespace Go.Abs
open Go Go.Proofs
set_option maxRecDepth 100000

theorem btrim_fn (l : List Nat) (h : Db 2 l) (hn : l.length ≤ 2 ^ 40) : Fn Try.prog 166 [.d (ib l)] [] (.d (ib (db 2 (vb 2 l)))) [] := by
  refine fn0 (nt := 21) (res := [.tmp 2]) Try.func166 rfl (by decide) rfl rfl rfl rfl ?_
  intro C hP hnt hl
  refine awp_sx prog_ok hP hnt [] [] [] [0] (by kernel_rfl) (G := fun K => K (St.mk [(0, V.d (ib l))] [] 1)) (fun K => by kernel_rfl) ?_
  refine awp_sx prog_ok hP hnt [] [] [] [0, 3] (by kernel_rfl) (G := fun K => K (St.mk [(0, V.d (ib l)), (3, V.d (D.int IntKind.i64 (↑l.length : Int)))] [] 4)) (fun K => by kernel_rfl) ?_
  refine awp_cut (ι := Nat) (fun n => ⟨[(0, .d (ib l)), (3, .d (.int .i64 n))], [], 0⟩) (fun n => n ≤ l.length ∧ (∀ k x, n ≤ k → l[k]? = some x → x = 0) ∧ (n = 0 ∨ ∃ x, l[n - 1]? = some x ∧ x ≠ 0)) ?_ ?_
  · refine awp_block ?_
    refine awp_loop (ι := Nat) (fun n => ⟨[(0, .d (ib l)), (3, .d (.int .i64 n))], [], 0⟩)
      (fun n => n ≤ l.length ∧ (∀ k x, n ≤ k → l[k]? = some x → x = 0)) (fun n => n) l.length [] ⟨Nat.le_refl _, fun k x hk hx => by rw [List.getElem?_eq_none hk] at hx; cases hx⟩ ?_ ?_
    · (constructor <;> simp [hl, envOk, memOk, conv, St.get, St.blk])
    intro n ⟨hle, hz⟩
    refine awp_seq_k fun K hK => ?_
    by_cases h0 : n = 0
    · subst h0
      refine awp_sx prog_ok hP hnt [(8, .bool false)] [] [] [0, 3, 15] (by kernel_rfl) (G := fun K => decide ((↑0 : Int) > (0 : Int)) = false ∧ K (St.mk [(0, V.d (ib l)), (3, V.d (D.int IntKind.i64 (↑0 : Int))), (15, V.d (D.bool false))] [] 10)) (fun K => by kernel_rfl) ?_
      refine ⟨rfl, awp_cond (b := false) rfl nofun fun _ => awp_exit ⟨0, [], ⟨by omega, hz, .inl rfl⟩, ?_⟩⟩
      (constructor <;> simp [hl, envOk, memOk, conv, St.get, St.blk])
    obtain ⟨x, hx⟩ := get_ex (l := l) (i := n - 1) (by omega)
    refine awp_sx prog_ok hP hnt [(8, .bool true), (11, .int .i64 (n - 1 : Nat))] [] [some [.int .i64 x]] [0, 3, 15] (by kernel_rfl) (G := fun K => decide ((↑n : Int) > (0 : Int)) = true ∧ IntKind.i64.wrap ((↑n : Int) - (1 : Int)) = (↑(n - 1) : Int) ∧ ((0 : Int) ≤ (↑(n - 1) : Int) ∧ (↑(n - 1) : Int) < (↑l.length : Int) ∧ ((↑(n - 1) : Int).toNat + 1) * 1 ≤ (ibs l).length) ∧ (List.drop ((↑(n - 1) : Int).toNat * 1) (ibs l))[0]? = some (D.int IntKind.i64 (↑x : Int)) ∧ K (St.mk [(0, V.d (ib l)), (3, V.d (D.int IntKind.i64 (↑n : Int))), (15, V.d (D.bool ((↑x : Int) == (0 : Int))))] [] 10)) (fun K => by kernel_rfl) ?_
    refine ⟨by simp; omega, by rw [w64] <;> omega, ⟨by omega, by omega, by simp; omega⟩, by simp [hx], awp_cond rfl (fun e => awp_skip (hK _ ?_)) (fun e => awp_exit ⟨n, [], ⟨hle, hz, .inr ⟨x, hx, ?_⟩⟩, ?_⟩)⟩
    · simp at e
      refine awp_block ?_
      refine awp_x prog_ok hP hnt [(17, .int .i64 (n - 1 : Nat))] [] [] [0, 3] (by kernel_rfl) (G := fun K => IntKind.i64.wrap ((↑n : Int) - (1 : Int)) = (↑(n - 1) : Int) ∧ K (St.mk [(0, V.d (ib l)), (3, V.d (D.int IntKind.i64 (↑(n - 1) : Int)))] [] 13)) (fun K => by kernel_rfl) ?_
      refine ⟨by rw [w64] <;> omega, n - 1, [], ⟨⟨by omega, fun k y hk hy => ?_⟩, by omega⟩, ?_⟩
      · by_cases e2 : k = n - 1
        · subst e2; rw [hx] at hy; cases hy; omega
        · exact hz k y (by omega) hy
      · (constructor <;> simp [hl, envOk, memOk, conv, St.get, St.blk])
    · simp at e; omega
    · (constructor <;> simp [hl, envOk, memOk, conv, St.get, St.blk])
  intro n ⟨h1, h2, h3⟩
  refine awp_sx prog_ok hP hnt [] [] [] [2] (by kernel_rfl) (G := fun K => ((0 : Int) ≤ (↑n : Int) ∧ (↑n : Int) ≤ (↑l.length : Int)) ∧ K (St.mk [(2, V.d (D.lst (↑n : Int).toNat (List.take ((↑n : Int).toNat * 1) (ibs l))))] [] 4)) (fun K => by kernel_rfl) ?_
  refine ⟨⟨by omega, by omega⟩, awp_ret ⟨.inl rfl, retD ?_⟩⟩
  have := cut_db (by omega) h h1 h2 h3
  rw [← this]
  show V.d _ = V.d _
  rw [ib, List.length_take, Nat.min_eq_left h1, Int.toNat_natCast, Nat.mul_one, ibs_take]

theorem bit_fn (l : List Nat) (i : Nat) : Fn Try.prog 216 [.d (ib l), .d (.int .i64 i)] [] (.d (.int .i64 (l.getD i 0 : Nat))) [] := by
  refine fn0 (nt := 13) (res := [.tmp 4]) Try.func216 rfl (by decide) rfl rfl rfl rfl ?_
  intro C hP hnt hl
  refine awp_sx prog_ok hP hnt [] [] [] [0, 1] (by kernel_rfl) (G := fun K => K (St.mk [(0, V.d (ib l)), (1, V.d (D.int IntKind.i64 (↑i : Int)))] [] 1)) (fun K => by kernel_rfl) ?_
  refine awp_seq_k fun K hK => ?_
  refine awp_sx prog_ok hP hnt [] [] [] [0, 1, 8] (by kernel_rfl) (G := fun K => K (St.mk [(0, V.d (ib l)), (1, V.d (D.int IntKind.i64 (↑i : Int))), (8, V.d (D.bool (decide ((↑i : Int) < (↑l.length : Int)))))] [] 5)) (fun K => by kernel_rfl) ?_
  refine awp_cond rfl (fun e => ?_) (fun e => awp_skip (hK _ ?_))
  · simp at e
    obtain ⟨x, hx⟩ := get_ex (l := l) (i := i) (by omega)
    refine awp_sx prog_ok hP hnt [] [] [some [.int .i64 x]] [4] (by kernel_rfl) (G := fun K => ((0 : Int) ≤ (↑i : Int) ∧ (↑i : Int) < (↑l.length : Int) ∧ ((↑i : Int).toNat + 1) * 1 ≤ (ibs l).length) ∧ (List.drop ((↑i : Int).toNat * 1) (ibs l))[0]? = some (D.int IntKind.i64 (↑x : Int)) ∧ K (St.mk [(4, V.d (D.int IntKind.i64 (↑x : Int)))] [] 10)) (fun K => by kernel_rfl) ?_
    refine ⟨⟨by omega, by omega, by simp; omega⟩, by simp [hx], awp_ret ⟨.inl rfl, retD ?_⟩⟩
    rw [List.getD_eq_getElem?_getD, hx]; rfl
  · simp at e
    refine awp_sx prog_ok hP hnt [] [] [] [4] (by kernel_rfl) (G := fun K => K (St.mk [(4, V.d (D.int IntKind.i64 (0 : Int)))] [] 6)) (fun K => by kernel_rfl) ?_
    refine awp_ret ⟨.inl rfl, retD ?_⟩
    rw [List.getD_eq_getElem?_getD, List.getElem?_eq_none (by omega)]; rfl

theorem tmodN (a b : Nat) : (a : Int).tmod (b : Int) = ((a % b : Nat) : Int) := (Int.ofNat_tmod a b).symm
theorem tdivN (a b : Nat) (h : a / b ≤ 9223372036854775807) : IntKind.i64.wrap ((a : Int).tdiv (b : Int)) = ((a / b : Nat) : Int) := by
  rw [← Int.ofNat_tdiv]
  generalize a / b = q at *
  rw [w64] <;> omega
theorem vb_snoc (b : Nat) (o : List Nat) (s : Nat) : vb b (o ++ [s]) = vb b o + b ^ o.length * s := by rw [vb_append]; simp [vb]
theorem vb_of_take {b : Nat} {l : List Nat} {n : Nat} (h : l.length ≤ n) : vb b (l.take n) = vb b l := by rw [List.take_of_length_le h]
theorem db_snoc {b : Nat} {o : List Nat} {s : Nat} (h : Db b o) (hs : s < b) : Db b (o ++ [s]) := fun d hd => by
  rcases List.mem_append.1 hd with h1 | h1
  · exact h d h1
  · simp at h1; omega

theorem badd_fn (l m : List Nat) (hl1 : Db 2 l) (hm1 : Db 2 m) (hln : l.length ≤ 2 ^ 39) (hmn : m.length ≤ 2 ^ 39) : Fn Try.prog 217 [.d (ib l), .d (ib m)] [] (.d (ib (db 2 (vb 2 l + vb 2 m)))) [] := by
  refine fn0 (nt := 43) (res := [.tmp 4]) Try.func217 rfl (by decide) rfl rfl rfl rfl ?_
  intro C hP hnt hl
  refine awp_sx prog_ok hP hnt [] [] [] [0, 1] (by kernel_rfl) (G := fun K => K (St.mk [(0, V.d (ib l)), (1, V.d (ib m))] [] 1)) (fun K => by kernel_rfl) ?_
  refine awp_sx prog_ok hP hnt [] [] [] [0, 1, 5] (by kernel_rfl) (G := fun K => K (St.mk [(0, V.d (ib l)), (1, V.d (ib m)), (5, V.nil)] [] 2)) (fun K => by kernel_rfl) ?_
  refine awp_sx prog_ok hP hnt [] [] [] [0, 1, 5, 6] (by kernel_rfl) (G := fun K => K (St.mk [(0, V.d (ib l)), (1, V.d (ib m)), (5, V.nil), (6, V.d (D.int IntKind.i64 (0 : Int)))] [] 3)) (fun K => by kernel_rfl) ?_
  refine awp_cut (ι := List Nat) (fun o => ⟨[(5, .own 0 0 o.length 1)], [(0, some ⟨ibs o, true⟩)], 1⟩) (fun o => Db 2 o ∧ o.length ≤ 2 ^ 40 ∧ vb 2 o = vb 2 l + vb 2 m) ?_ ?_
  · refine awp_sx prog_ok hP hnt [] [] [] [0, 1, 5, 6, 7] (by kernel_rfl) (G := fun K => K (St.mk [(0, V.d (ib l)), (1, V.d (ib m)), (5, V.nil), (6, V.d (D.int IntKind.i64 (0 : Int))), (7, V.d (D.int IntKind.i64 (0 : Int)))] [] 4)) (fun K => by kernel_rfl) ?_
    refine awp_block ?_
    refine awp_loop (ι := List Nat × Nat) (fun p => ⟨[(0, .d (ib l)), (1, .d (ib m)), (5, .own 0 0 p.1.length 1), (6, .d (.int .i64 p.2)), (7, .d (.int .i64 p.1.length))], [(0, some ⟨ibs p.1, true⟩)], 1⟩)
      (fun p => Db 2 p.1 ∧ p.2 ≤ 1 ∧ p.1.length ≤ max l.length m.length + 1 ∧ (p.1.length = max l.length m.length + 1 → p.2 = 0) ∧ vb 2 p.1 + 2 ^ p.1.length * p.2 = vb 2 (l.take p.1.length) + vb 2 (m.take p.1.length)) (fun p => max l.length m.length + 1 - p.1.length) ([], 0) [] ⟨(fun d hd => by cases hd), by simp, by simp, by simp, by simp [vb]⟩ ?_ ?_
    · (constructor <;> simp [hl, envOk, memOk, conv, St.get, St.blk, ibs, fm])
    intro ⟨o, c⟩ ⟨ho, hc, hlen, hend, hv⟩
    simp only at ho hc hlen hend hv ⊢
    refine awp_seq_k fun K hK => ?_
    refine awp_cut (ι := Unit) (fun _ => ⟨[(0, .d (ib l)), (1, .d (ib m)), (5, .own 0 0 o.length 1), (6, .d (.int .i64 c)), (7, .d (.int .i64 o.length)), (22, .d (.bool (decide (o.length < l.length ∨ o.length < m.length ∨ 0 < c))))], [(0, some ⟨ibs o, true⟩)], 1⟩) (fun _ => True) ?_ ?_
    · by_cases g1 : o.length < l.length
      · refine awp_x prog_ok hP hnt [(12, .bool true)] [] [] [0, 1, 5, 6, 7, 22] (by kernel_rfl) (G := fun K => decide ((↑o.length : Int) < (↑l.length : Int)) = true ∧ K (St.mk [(0, V.d (ib l)), (1, V.d (ib m)), (5, V.own 0 0 o.length 1), (6, V.d (D.int IntKind.i64 (↑c : Int))), (7, V.d (D.int IntKind.i64 (↑o.length : Int))), (22, V.d (D.bool true))] [(0, some (Blk.mk (ibs o) true))] 15)) (fun K => by kernel_rfl) ?_
        refine ⟨by simp; omega, (), [(0, 0)], trivial, ?_⟩
        (constructor <;> simp [hl, envOk, memOk, conv, St.get, St.blk, g1])
      · by_cases g2 : o.length < m.length
        · refine awp_x prog_ok hP hnt [(12, .bool false), (17, .bool true)] [] [] [0, 1, 5, 6, 7, 22] (by kernel_rfl) (G := fun K => decide ((↑o.length : Int) < (↑l.length : Int)) = false ∧ decide ((↑o.length : Int) < (↑m.length : Int)) = true ∧ K (St.mk [(0, V.d (ib l)), (1, V.d (ib m)), (5, V.own 0 0 o.length 1), (6, V.d (D.int IntKind.i64 (↑c : Int))), (7, V.d (D.int IntKind.i64 (↑o.length : Int))), (22, V.d (D.bool true))] [(0, some (Blk.mk (ibs o) true))] 15)) (fun K => by kernel_rfl) ?_
          refine ⟨by simp; omega, by simp; omega, (), [(0, 0)], trivial, ?_⟩
          (constructor <;> simp [hl, envOk, memOk, conv, St.get, St.blk, g1, g2])
        · refine awp_x prog_ok hP hnt [(12, .bool false), (17, .bool false)] [] [] [0, 1, 5, 6, 7, 22] (by kernel_rfl) (G := fun K => decide ((↑o.length : Int) < (↑l.length : Int)) = false ∧ decide ((↑o.length : Int) < (↑m.length : Int)) = false ∧ K (St.mk [(0, V.d (ib l)), (1, V.d (ib m)), (5, V.own 0 0 o.length 1), (6, V.d (D.int IntKind.i64 (↑c : Int))), (7, V.d (D.int IntKind.i64 (↑o.length : Int))), (22, V.d (D.bool (decide ((↑c : Int) > (0 : Int)))))] [(0, some (Blk.mk (ibs o) true))] 15)) (fun K => by kernel_rfl) ?_
          refine ⟨by simp; omega, by simp; omega, (), [(0, 0)], trivial, ?_⟩
          (constructor <;> simp [hl, envOk, memOk, conv, St.get, St.blk, g1, g2])
    intro _ _
    refine awp_cond rfl (fun e => awp_skip (hK _ ?_)) (fun e => awp_exit ⟨o, [(0, 0)], ?_, ?_⟩)
    · simp at e
      refine awp_seq_k fun K2 hK2 => ?_
      refine awp_block ?_
      obtain ⟨x, hx⟩ : ∃ x, x = l.getD o.length 0 := ⟨_, rfl⟩
      obtain ⟨y, hy⟩ : ∃ y, y = m.getD o.length 0 := ⟨_, rfl⟩
      have hx2 : x < 2 := hx ▸ db_getD (by omega) hl1 _
      have hy2 : y < 2 := hy ▸ db_getD (by omega) hm1 _
      refine awp_sx prog_ok hP hnt [(31, .int .i64 (x + y : Nat)), (33, .int .i64 (x + y + c : Nat))] [.val (.d (.int .i64 x)), .val (.d (.int .i64 y))] [] [0, 1, 5, 7, 8] (by kernel_rfl) (G := fun K => Fn Try.prog 216 [V.d (ib l), V.d (D.int IntKind.i64 (↑o.length : Int))] [] (V.d (D.int IntKind.i64 (↑x : Int))) [] ∧ Fn Try.prog 216 [V.d (ib m), V.d (D.int IntKind.i64 (↑o.length : Int))] [] (V.d (D.int IntKind.i64 (↑y : Int))) [] ∧ IntKind.i64.wrap ((↑x : Int) + (↑y : Int)) = (↑(x + y) : Int) ∧ IntKind.i64.wrap ((↑(x + y) : Int) + (↑c : Int)) = (↑(x + y + c) : Int) ∧ K (St.mk [(0, V.d (ib l)), (1, V.d (ib m)), (5, V.own 0 0 o.length 1), (7, V.d (D.int IntKind.i64 (↑o.length : Int))), (8, V.d (D.int IntKind.i64 (↑(x + y + c) : Int)))] [(0, some (Blk.mk (ibs o) true))] 11)) (fun K => by kernel_rfl) ?_
      refine ⟨by have := bit_fn l o.length; rwa [← hx] at this, by have := bit_fn m o.length; rwa [← hy] at this, by rw [w64] <;> omega, by rw [w64] <;> omega, ?_⟩
      refine awp_sx prog_ok hP hnt [(36, .int .i64 ((x + y + c) % 2 : Nat))] [] [] [0, 1, 5, 7, 8] (by kernel_rfl) (G := fun K => (2 : Int) ≠ (0 : Int) ∧ (↑(x + y + c) : Int).tmod (2 : Int) = (↑((x + y + c) % 2) : Int) ∧ 1 = 1 ∧ ((ibs o).length = o.length * 1 ∧ (o.length + 1) * 8 ≤ 2 ^ 47) ∧ K (St.mk [(0, V.d (ib l)), (1, V.d (ib m)), (5, V.own 15 0 (o.length + 1) 1), (7, V.d (D.int IntKind.i64 (↑o.length : Int))), (8, V.d (D.int IntKind.i64 (↑(x + y + c) : Int)))] [(0, none), (15, some (Blk.mk (ibs o ++ setCells (zeros 1 (TI.mk (Kind.int IntKind.i64) 1 8 [D.int IntKind.i64 (0 : Int)]).zero) 0 [D.int IntKind.i64 (↑((x + y + c) % 2) : Int)]) true))] 17)) (fun K => by kernel_rfl) ?_
      refine ⟨by decide, tmodN _ _, rfl, ⟨by simp, by omega⟩, ?_⟩
      refine awp_x prog_ok hP hnt [(40, .int .i64 ((x + y + c) / 2 : Nat))] [] [] [0, 1, 5, 6, 7] (by kernel_rfl) (G := fun K => (2 : Int) ≠ (0 : Int) ∧ IntKind.i64.wrap ((↑(x + y + c) : Int).tdiv (2 : Int)) = (↑((x + y + c) / 2) : Int) ∧ K (St.mk [(0, V.d (ib l)), (1, V.d (ib m)), (5, V.own 15 0 (o.length + 1) 1), (7, V.d (D.int IntKind.i64 (↑o.length : Int))), (6, V.d (D.int IntKind.i64 (↑((x + y + c) / 2) : Int)))] [(0, none), (15, some (Blk.mk (ibs o ++ setCells (zeros 1 (TI.mk (Kind.int IntKind.i64) 1 8 [D.int IntKind.i64 (0 : Int)]).zero) 0 [D.int IntKind.i64 (↑((x + y + c) % 2) : Int)]) true))] 20)) (fun K => by kernel_rfl) ?_
      refine ⟨by decide, tdivN (x + y + c) 2 (by omega), hK2 _ ?_⟩
      refine awp_x prog_ok hP hnt [(24, .int .i64 (o.length + 1 : Nat))] [] [] [0, 1, 5, 6, 7] (by kernel_rfl) (G := fun K => IntKind.i64.wrap ((↑o.length : Int) + (1 : Int)) = (↑(o.length + 1) : Int) ∧ K (St.mk [(0, V.d (ib l)), (1, V.d (ib m)), (5, V.own 15 0 (o.length + 1) 1), (7, V.d (D.int IntKind.i64 (↑(o.length + 1) : Int))), (6, V.d (D.int IntKind.i64 (↑((x + y + c) / 2) : Int)))] [(0, none), (15, some (Blk.mk (ibs o ++ setCells (zeros 1 (TI.mk (Kind.int IntKind.i64) 1 8 [D.int IntKind.i64 (0 : Int)]).zero) 0 [D.int IntKind.i64 (↑((x + y + c) % 2) : Int)]) true))] 23)) (fun K => by kernel_rfl) ?_
      have happ := ibs_app o ((x + y + c) % 2)
      refine ⟨by rw [w64] <;> omega, (o ++ [(x + y + c) % 2], (x + y + c) / 2), [(0, 15)], ⟨⟨db_snoc ho (by omega), by simp only; omega, by simp; omega, ?_, ?_⟩, by simp; omega⟩, ?_⟩
      · simp only [List.length_append, List.length_cons, List.length_nil]
        intro e2
        have e3 : x = 0 := by rw [hx, List.getD_eq_getElem?_getD, List.getElem?_eq_none (by omega)]; rfl
        have e4 : y = 0 := by rw [hy, List.getD_eq_getElem?_getD, List.getElem?_eq_none (by omega)]; rfl
        omega
      · simp only [List.length_append, List.length_cons, List.length_nil, vb_snoc, vb_take_D, Nat.zero_add, Nat.pow_succ]
        rw [← hx, ← hy]
        generalize hB : 2 ^ o.length = B at *
        have e5 : B * (x + y + c) = B * (2 * ((x + y + c) / 2) + (x + y + c) % 2) := by rw [Nat.div_add_mod]
        generalize (x + y + c) / 2 = d at *
        generalize (x + y + c) % 2 = s at *
        grind
      · (constructor <;> simp [hl, envOk, memOk, conv, St.get, St.blk, ← happ, setCells, zeros])
    · simp at e
      have h1 := vb_of_take (b := 2) (l := l) (n := o.length) (by omega)
      have h2 := vb_of_take (b := 2) (l := m) (n := o.length) (by omega)
      refine ⟨ho, by omega, ?_⟩
      have hc0 : c = 0 := by omega
      rw [hc0] at hv
      omega
    · (constructor <;> simp [hl, envOk, memOk, conv, St.get, St.blk])
  intro o ⟨ho, hlen, hv⟩
  refine awp_sx prog_ok hP hnt [] [.val (.d (ib (db 2 (vb 2 o))))] [] [4] (by kernel_rfl) (G := fun K => Fn Try.prog 166 [V.d (D.lst o.length (List.take (o.length * 1) (List.drop 0 (ibs o))))] [] (V.d (ib (db 2 (vb 2 o)))) [] ∧ K (St.mk [(4, V.d (ib (db 2 (vb 2 o))))] [(0, some (Blk.mk (ibs o) false))] 4)) (fun K => by kernel_rfl) ?_
  refine ⟨?_, awp_ret ⟨.inl rfl, retD (by rw [hv]; rfl)⟩⟩
  have := own_fm i1_len (l := o) rfl
  rw [Nat.mul_one] at this
  rw [Nat.mul_one, this]
  exact btrim_fn o ho hlen
end Go.Abs

set_option linter.unusedVariables false
set_option linter.unusedSimpArgs false
namespace Go.Abs
open Go Go.Proofs
set_option maxRecDepth 100000

theorem vb_take_small {l : List Nat} {n : Nat} (h : vb 2 l < 2 ^ n) : vb 2 (l.take n) = vb 2 l := by
  rcases Nat.lt_or_ge n l.length with h1 | h1
  · have := vb_append (b := 2) (l.take n) (l.drop n)
    rw [List.take_append_drop, List.length_take, Nat.min_eq_left (by omega)] at this
    have h2 : vb 2 (l.drop n) = 0 := by
      apply Classical.byContradiction
      intro h3
      have : 2 ^ n * 1 ≤ 2 ^ n * vb 2 (l.drop n) := Nat.mul_le_mul_left _ (by omega)
      omega
    rw [h2] at this
    omega
  · rw [List.take_of_length_le h1]

theorem bsub_fn (l m : List Nat) (hl1 : Db 2 l) (hm1 : Db 2 m) (hln : l.length ≤ 2 ^ 39) (hle : vb 2 m ≤ vb 2 l) : Fn Try.prog 218 [.d (ib l), .d (ib m)] [] (.d (ib (db 2 (vb 2 l - vb 2 m)))) [] := by
  refine fn0 (nt := 34) (res := [.tmp 4]) Try.func218 rfl (by decide) rfl rfl rfl rfl ?_
  intro C hP hnt hl
  refine awp_sx prog_ok hP hnt [] [] [] [0, 1] (by kernel_rfl) (G := fun K => K (St.mk [(0, V.d (ib l)), (1, V.d (ib m))] [] 1)) (fun K => by kernel_rfl) ?_
  refine awp_sx prog_ok hP hnt [] [] [] [0, 1, 5] (by kernel_rfl) (G := fun K => K (St.mk [(0, V.d (ib l)), (1, V.d (ib m)), (5, V.nil)] [] 2)) (fun K => by kernel_rfl) ?_
  refine awp_sx prog_ok hP hnt [] [] [] [0, 1, 5, 6] (by kernel_rfl) (G := fun K => K (St.mk [(0, V.d (ib l)), (1, V.d (ib m)), (5, V.nil), (6, V.d (D.int IntKind.i64 (0 : Int)))] [] 3)) (fun K => by kernel_rfl) ?_
  refine awp_cut (ι := List Nat) (fun o => ⟨[(5, .own 0 0 o.length 1)], [(0, some ⟨ibs o, true⟩)], 1⟩) (fun o => Db 2 o ∧ o.length ≤ 2 ^ 40 ∧ vb 2 o = vb 2 l - vb 2 m) ?_ ?_
  · refine awp_sx prog_ok hP hnt [] [] [] [0, 1, 5, 6, 7] (by kernel_rfl) (G := fun K => K (St.mk [(0, V.d (ib l)), (1, V.d (ib m)), (5, V.nil), (6, V.d (D.int IntKind.i64 (0 : Int))), (7, V.d (D.int IntKind.i64 (0 : Int)))] [] 4)) (fun K => by kernel_rfl) ?_
    refine awp_block ?_
    refine awp_loop (ι := List Nat × Nat) (fun p => ⟨[(0, .d (ib l)), (1, .d (ib m)), (5, .own 0 0 p.1.length 1), (6, .d (.int .i64 p.2)), (7, .d (.int .i64 p.1.length))], [(0, some ⟨ibs p.1, true⟩)], 1⟩)
      (fun p => Db 2 p.1 ∧ p.2 ≤ 1 ∧ p.1.length ≤ l.length ∧ vb 2 p.1 + vb 2 (m.take p.1.length) = vb 2 (l.take p.1.length) + 2 ^ p.1.length * p.2) (fun p => l.length - p.1.length) ([], 0) [] ⟨(fun d hd => by cases hd), by simp, by simp, by simp [vb]⟩ ?_ ?_
    · (constructor <;> simp [hl, envOk, memOk, conv, St.get, St.blk, ibs, fm])
    intro ⟨o, c⟩ ⟨ho, hc, hlen, hv⟩
    simp only at ho hc hlen hv ⊢
    refine awp_seq_k fun K hK => ?_
    refine awp_sx prog_ok hP hnt [] [] [] [0, 1, 5, 6, 7, 12] (by kernel_rfl) (G := fun K => K (St.mk [(0, V.d (ib l)), (1, V.d (ib m)), (5, V.own 0 0 o.length 1), (6, V.d (D.int IntKind.i64 (↑c : Int))), (7, V.d (D.int IntKind.i64 (↑o.length : Int))), (12, V.d (D.bool (decide ((↑o.length : Int) < (↑l.length : Int)))))] [(0, some (Blk.mk (ibs o) true))] 5)) (fun K => by kernel_rfl) ?_
    refine awp_cond rfl (fun e => awp_skip (hK _ ?_)) (fun e => awp_exit ⟨o, [(0, 0)], ?_, ?_⟩)
    · simp at e
      refine awp_seq_k fun K2 hK2 => ?_
      refine awp_block ?_
      obtain ⟨x, hx⟩ : ∃ x, x = l.getD o.length 0 := ⟨_, rfl⟩
      obtain ⟨y, hy⟩ : ∃ y, y = m.getD o.length 0 := ⟨_, rfl⟩
      have hx2 : x < 2 := hx ▸ db_getD (by omega) hl1 _
      have hy2 : y < 2 := hy ▸ db_getD (by omega) hm1 _
      refine awp_sx prog_ok hP hnt [(21, .int .i64 (x - y : Int)), (23, .int .i64 (x - y - c : Int))] [.val (.d (.int .i64 x)), .val (.d (.int .i64 y))] [] [0, 1, 5, 7, 8] (by kernel_rfl) (G := fun K => Fn Try.prog 216 [V.d (ib l), V.d (D.int IntKind.i64 (↑o.length : Int))] [] (V.d (D.int IntKind.i64 (↑x : Int))) [] ∧ Fn Try.prog 216 [V.d (ib m), V.d (D.int IntKind.i64 (↑o.length : Int))] [] (V.d (D.int IntKind.i64 (↑y : Int))) [] ∧ IntKind.i64.wrap ((↑x : Int) - (↑y : Int)) = (↑x : Int) - (↑y : Int) ∧ IntKind.i64.wrap ((↑x : Int) - (↑y : Int) - (↑c : Int)) = (↑x : Int) - (↑y : Int) - (↑c : Int) ∧ K (St.mk [(0, V.d (ib l)), (1, V.d (ib m)), (5, V.own 0 0 o.length 1), (7, V.d (D.int IntKind.i64 (↑o.length : Int))), (8, V.d (D.int IntKind.i64 ((↑x : Int) - (↑y : Int) - (↑c : Int))))] [(0, some (Blk.mk (ibs o) true))] 15)) (fun K => by kernel_rfl) ?_
      refine ⟨by have := bit_fn l o.length; rwa [← hx] at this, by have := bit_fn m o.length; rwa [← hy] at this, by rw [w64] <;> omega, by rw [w64] <;> omega, ?_⟩
      refine awp_sx prog_ok hP hnt [] [] [] [0, 1, 5, 6, 7, 8] (by kernel_rfl) (G := fun K => K (St.mk [(0, V.d (ib l)), (1, V.d (ib m)), (5, V.own 0 0 o.length 1), (7, V.d (D.int IntKind.i64 (↑o.length : Int))), (8, V.d (D.int IntKind.i64 ((↑x : Int) - (↑y : Int) - (↑c : Int)))), (6, V.d (D.int IntKind.i64 (0 : Int)))] [(0, some (Blk.mk (ibs o) true))] 16)) (fun K => by kernel_rfl) ?_
      refine awp_cut (ι := Nat × Nat) (fun q => ⟨[(0, .d (ib l)), (1, .d (ib m)), (5, .own 0 0 o.length 1), (6, .d (.int .i64 q.2)), (7, .d (.int .i64 o.length)), (8, .d (.int .i64 q.1))], [(0, some ⟨ibs o, true⟩)], 1⟩) (fun q => q.1 < 2 ∧ q.2 ≤ 1 ∧ q.1 + y + c = x + 2 * q.2) ?_ ?_
      · refine awp_sx prog_ok hP hnt [] [] [] [0, 1, 5, 6, 7, 8, 25] (by kernel_rfl) (G := fun K => K (St.mk [(0, V.d (ib l)), (1, V.d (ib m)), (5, V.own 0 0 o.length 1), (7, V.d (D.int IntKind.i64 (↑o.length : Int))), (8, V.d (D.int IntKind.i64 ((↑x : Int) - (↑y : Int) - (↑c : Int)))), (6, V.d (D.int IntKind.i64 (0 : Int))), (25, V.d (D.bool (decide ((↑x : Int) - (↑y : Int) - (↑c : Int) < (0 : Int)))))] [(0, some (Blk.mk (ibs o) true))] 18)) (fun K => by kernel_rfl) ?_
        refine awp_cond rfl (fun e => ?_) (fun e => awp_skip ⟨(x - y - c, 0), [(0, 0)], ?_, ?_⟩)
        · simp at e
          refine awp_sx prog_ok hP hnt [(27, .int .i64 (x + 2 - y - c : Nat))] [] [] [0, 1, 5, 7, 8] (by kernel_rfl) (G := fun K => IntKind.i64.wrap ((↑x : Int) - (↑y : Int) - (↑c : Int) + (2 : Int)) = (↑(x + 2 - y - c) : Int) ∧ K (St.mk [(0, V.d (ib l)), (1, V.d (ib m)), (5, V.own 0 0 o.length 1), (7, V.d (D.int IntKind.i64 (↑o.length : Int))), (8, V.d (D.int IntKind.i64 (↑(x + 2 - y - c) : Int)))] [(0, some (Blk.mk (ibs o) true))] 21)) (fun K => by kernel_rfl) ?_
          refine ⟨by rw [w64] <;> omega, ?_⟩
          refine awp_x prog_ok hP hnt [] [] [] [0, 1, 5, 6, 7, 8] (by kernel_rfl) (G := fun K => K (St.mk [(0, V.d (ib l)), (1, V.d (ib m)), (5, V.own 0 0 o.length 1), (7, V.d (D.int IntKind.i64 (↑o.length : Int))), (8, V.d (D.int IntKind.i64 (↑(x + 2 - y - c) : Int))), (6, V.d (D.int IntKind.i64 (1 : Int)))] [(0, some (Blk.mk (ibs o) true))] 22)) (fun K => by kernel_rfl) ?_
          refine ⟨(x + 2 - y - c, 1), [(0, 0)], by simp only; omega, ?_⟩
          (constructor <;> simp [hl, envOk, memOk, conv, St.get, St.blk])
        · simp at e; simp only; omega
        · simp at e
          have : ((x - y - c : Nat) : Int) = x - y - c := by omega
          (constructor <;> simp [hl, envOk, memOk, conv, St.get, St.blk, this])
      intro ⟨s, c'⟩ ⟨h1, h2, h3⟩
      simp only at h1 h2 h3 ⊢
      refine awp_x prog_ok hP hnt [] [] [] [0, 1, 5, 6, 7] (by kernel_rfl) (G := fun K => 1 = 1 ∧ ((ibs o).length = o.length * 1 ∧ (o.length + 1) * 8 ≤ 2 ^ 47) ∧ K (St.mk [(0, V.d (ib l)), (1, V.d (ib m)), (5, V.own 4 0 (o.length + 1) 1), (6, V.d (D.int IntKind.i64 (↑c' : Int))), (7, V.d (D.int IntKind.i64 (↑o.length : Int)))] [(0, none), (4, some (Blk.mk (ibs o ++ setCells (zeros 1 (TI.mk (Kind.int IntKind.i64) 1 8 [D.int IntKind.i64 (0 : Int)]).zero) 0 [D.int IntKind.i64 (↑s : Int)]) true))] 6)) (fun K => by kernel_rfl) ?_
      have happ := ibs_app o s
      refine ⟨rfl, ⟨by simp, by omega⟩, hK2 _ ?_⟩
      refine awp_x prog_ok hP hnt [(14, .int .i64 (o.length + 1 : Nat))] [] [] [0, 1, 5, 6, 7] (by kernel_rfl) (G := fun K => IntKind.i64.wrap ((↑o.length : Int) + (1 : Int)) = (↑(o.length + 1) : Int) ∧ K (St.mk [(0, V.d (ib l)), (1, V.d (ib m)), (5, V.own 4 0 (o.length + 1) 1), (6, V.d (D.int IntKind.i64 (↑c' : Int))), (7, V.d (D.int IntKind.i64 (↑(o.length + 1) : Int)))] [(0, none), (4, some (Blk.mk (ibs o ++ setCells (zeros 1 (TI.mk (Kind.int IntKind.i64) 1 8 [D.int IntKind.i64 (0 : Int)]).zero) 0 [D.int IntKind.i64 (↑s : Int)]) true))] 9)) (fun K => by kernel_rfl) ?_
      refine ⟨by rw [w64] <;> omega, (o ++ [s], c'), [(0, 4)], ⟨⟨db_snoc ho h1, h2, by simp; omega, ?_⟩, by simp; omega⟩, ?_⟩
      · simp only [List.length_append, List.length_cons, List.length_nil, vb_snoc, vb_take_D, Nat.zero_add, Nat.pow_succ]
        rw [← hx, ← hy]
        generalize hB : 2 ^ o.length = B at *
        have e5 : B * (s + y + c) = B * (x + 2 * c') := by rw [h3]
        grind
      · (constructor <;> simp [hl, envOk, memOk, conv, St.get, St.blk, ← happ, setCells, zeros])
    · simp at e
      have hol : o.length = l.length := by omega
      rw [hol] at hv
      have hvl := vb_lt (b := 2) (by omega) hl1
      rw [List.take_length, vb_take_small (Nat.lt_of_le_of_lt hle hvl)] at hv
      have hvo := vb_lt (b := 2) (by omega) ho
      rw [hol] at hvo
      have hc0 : c = 0 := by
        apply Classical.byContradiction
        intro h1
        have : c = 1 := by omega
        subst this
        omega
      subst hc0
      refine ⟨ho, by omega, by omega⟩
    · (constructor <;> simp [hl, envOk, memOk, conv, St.get, St.blk])
  intro o ⟨ho, hlen, hv⟩
  refine awp_sx prog_ok hP hnt [] [.val (.d (ib (db 2 (vb 2 o))))] [] [4] (by kernel_rfl) (G := fun K => Fn Try.prog 166 [V.d (D.lst o.length (List.take (o.length * 1) (List.drop 0 (ibs o))))] [] (V.d (ib (db 2 (vb 2 o)))) [] ∧ K (St.mk [(4, V.d (ib (db 2 (vb 2 o))))] [(0, some (Blk.mk (ibs o) false))] 4)) (fun K => by kernel_rfl) ?_
  refine ⟨?_, awp_ret ⟨.inl rfl, retD (by rw [hv]; rfl)⟩⟩
  have := own_fm i1_len (l := o) rfl
  rw [Nat.mul_one] at this
  rw [Nat.mul_one, this]
  exact btrim_fn o ho hlen

theorem vb_ext {l m : List Nat} (h : ∀ k, l.getD k 0 = m.getD k 0) : vb 2 l = vb 2 m := by
  induction l generalizing m with
  | nil =>
    have h0 : m = List.replicate m.length 0 := by
      apply List.ext_getElem?
      intro k
      by_cases hk : k < m.length
      · have := h k
        obtain ⟨x, hx⟩ := get_ex hk
        rw [List.getD_eq_getElem?_getD, List.getD_eq_getElem?_getD, hx] at this
        simp at this
        rw [hx, List.getElem?_replicate, if_pos hk, ← this]
      · rw [List.getElem?_eq_none (by omega), List.getElem?_eq_none (by simp; omega)]
    rw [h0, vb_zeros]; rfl
  | cons d l ih =>
    cases m with
    | nil =>
      have h1 := h 0
      have h2 := ih (m := []) (fun k => by simpa using h (k + 1))
      simp [vb] at h1 h2 ⊢
      omega
    | cons e m =>
      have h1 := h 0
      have h2 := ih (m := m) (fun k => by simpa using h (k + 1))
      simp [vb] at h1 h2 ⊢
      omega
theorem vb_split (l : List Nat) (i : Nat) : vb 2 l = vb 2 (l.take i) + 2 ^ i * (l.getD i 0 + 2 * vb 2 (l.drop (i + 1))) := by
  by_cases h : i < l.length
  · have := vb_append (b := 2) (l.take i) (l.drop i)
    rw [List.take_append_drop, List.length_take, Nat.min_eq_left (by omega)] at this
    rw [this, List.drop_eq_getElem_cons h, vb]
    simp [h]
  · rw [List.take_of_length_le (by omega), List.drop_eq_nil_of_le (by omega), List.getD_eq_getElem?_getD, List.getElem?_eq_none (by omega)]; simp [vb]
theorem vb_top {l m : List Nat} {i : Nat} (hl : Db 2 l) (hm : Db 2 m) (h : ∀ k, i < k → l.getD k 0 = m.getD k 0) (hi : m.getD i 0 < l.getD i 0) : vb 2 m < vb 2 l := by
  rw [vb_split l i, vb_split m i]
  have e : vb 2 (l.drop (i + 1)) = vb 2 (m.drop (i + 1)) := vb_ext fun k => by
    have := h (i + 1 + k) (by omega)
    simpa [List.getD_eq_getElem?_getD, List.getElem?_drop] using this
  have h1 : vb 2 (m.take i) < 2 ^ i := Nat.lt_of_lt_of_le (vb_lt (by omega) (db_take hm i)) (Nat.pow_le_pow_right (by omega) (by rw [List.length_take]; omega))
  rw [e]
  have : 2 ^ i * (m.getD i 0 + 2 * vb 2 (m.drop (i + 1)) + 1) ≤ 2 ^ i * (l.getD i 0 + 2 * vb 2 (m.drop (i + 1))) := Nat.mul_le_mul_left _ (by omega)
  rw [Nat.mul_add] at this
  omega

theorem bcmp_fn (l m : List Nat) (hl1 : Db 2 l) (hm1 : Db 2 m) (hln : l.length ≤ 2 ^ 40) (hmn : m.length ≤ 2 ^ 40) : Fn Try.prog 167 [.d (ib l), .d (ib m)] [] (.d (.int .i64 (cmpI (vb 2 l) (vb 2 m)))) [] := by
  refine fn0 (nt := 30) (res := [.tmp 4]) Try.func167 rfl (by decide) rfl rfl rfl rfl ?_
  intro C hP hnt hl
  obtain ⟨N, hN⟩ : ∃ N, N = max l.length m.length := ⟨_, rfl⟩
  refine awp_sx prog_ok hP hnt [] [] [] [0, 1] (by kernel_rfl) (G := fun K => K (St.mk [(0, V.d (ib l)), (1, V.d (ib m))] [] 1)) (fun K => by kernel_rfl) ?_
  refine awp_cut (ι := Unit) (fun _ => ⟨[], [], 0⟩) (fun _ => vb 2 l = vb 2 m) ?_ ?_
  · refine awp_sx prog_ok hP hnt [(11, .int .i64 (N - 1 : Int))] [] [] [0, 1, 5] (by kernel_rfl) (G := fun K => IntKind.i64.wrap ((if (↑m.length : Int) > (↑l.length : Int) then (↑m.length : Int) else (↑l.length : Int)) - (1 : Int)) = (↑N : Int) - (1 : Int) ∧ K (St.mk [(0, V.d (ib l)), (1, V.d (ib m)), (5, V.d (D.int IntKind.i64 ((↑N : Int) - (1 : Int))))] [] 8)) (fun K => by kernel_rfl) ?_
    refine ⟨by rw [w64] <;> split <;> omega, ?_⟩
    refine awp_block ?_
    refine awp_loop (ι := Nat) (fun n => ⟨[(0, .d (ib l)), (1, .d (ib m)), (5, .d (.int .i64 (n - 1 : Int)))], [], 0⟩)
      (fun n => n ≤ N ∧ ∀ k, n ≤ k → l.getD k 0 = m.getD k 0) (fun n => n) N [] ⟨Nat.le_refl _, fun k hk => by rw [List.getD_eq_getElem?_getD, List.getD_eq_getElem?_getD, List.getElem?_eq_none (by omega), List.getElem?_eq_none (by omega)]⟩ ?_ ?_
    · (constructor <;> simp [hl, envOk, memOk, conv, St.get, St.blk])
    intro n ⟨hn, hz⟩
    refine awp_seq_k fun K hK => ?_
    refine awp_sx prog_ok hP hnt [] [] [] [0, 1, 5, 13] (by kernel_rfl) (G := fun K => K (St.mk [(0, V.d (ib l)), (1, V.d (ib m)), (5, V.d (D.int IntKind.i64 ((↑n : Int) - (1 : Int)))), (13, V.d (D.bool (decide ((↑n : Int) - (1 : Int) ≥ (0 : Int)))))] [] 2)) (fun K => by kernel_rfl) ?_
    refine awp_cond rfl (fun e => awp_skip (hK _ ?_)) (fun e => awp_exit ⟨(), [], ?_, ?_⟩)
    · simp at e
      obtain ⟨i, rfl⟩ : ∃ i, n = i + 1 := ⟨n - 1, by omega⟩
      have ei : ((i + 1 : Nat) : Int) - 1 = i := by omega
      rw [ei]
      refine awp_seq_k fun K2 hK2 => ?_
      refine awp_block ?_
      have b1 := bit_fn l i
      have b2 := bit_fn m i
      have hx2 := db_getD (b := 2) (by omega) hl1 i
      have hy2 := db_getD (b := 2) (by omega) hm1 i
      have ht1 := vb_top (l := l) (m := m) (i := i) hl1 hm1 (fun k hk => hz k (by omega))
      have ht2 := vb_top (l := m) (m := l) (i := i) hm1 hl1 (fun k hk => (hz k (by omega)).symm)
      have hee : l.getD i 0 = m.getD i 0 → ∀ k, i ≤ k → l.getD k 0 = m.getD k 0 := fun h k hk => by
        by_cases e : k = i
        · subst e; exact h
        · exact hz k (by omega)
      generalize l.getD i 0 = x at *
      generalize m.getD i 0 = y at *
      refine awp_sx prog_ok hP hnt [] [.val (.d (.int .i64 x)), .val (.d (.int .i64 y))] [] [0, 1, 5, 22] (by kernel_rfl) (G := fun K => Fn Try.prog 216 [V.d (ib l), V.d (D.int IntKind.i64 (↑i : Int))] [] (V.d (D.int IntKind.i64 (↑x : Int))) [] ∧ Fn Try.prog 216 [V.d (ib m), V.d (D.int IntKind.i64 (↑i : Int))] [] (V.d (D.int IntKind.i64 (↑y : Int))) [] ∧ K (St.mk [(0, V.d (ib l)), (1, V.d (ib m)), (5, V.d (D.int IntKind.i64 (↑i : Int))), (22, V.d (D.bool ((↑x : Int) != (↑y : Int))))] [] 9)) (fun K => by kernel_rfl) ?_
      refine ⟨b1, b2, awp_cond rfl (fun e => ?_) (fun e => awp_skip (hK2 _ ?_))⟩
      · simp at e
        refine awp_sx prog_ok hP hnt [(29, .int .i64 (x - y : Int))] [.val (.d (.int .i64 x)), .val (.d (.int .i64 y))] [] [4] (by kernel_rfl) (G := fun K => Fn Try.prog 216 [V.d (ib l), V.d (D.int IntKind.i64 (↑i : Int))] [] (V.d (D.int IntKind.i64 (↑x : Int))) [] ∧ Fn Try.prog 216 [V.d (ib m), V.d (D.int IntKind.i64 (↑i : Int))] [] (V.d (D.int IntKind.i64 (↑y : Int))) [] ∧ IntKind.i64.wrap ((↑x : Int) - (↑y : Int)) = (↑x : Int) - (↑y : Int) ∧ K (St.mk [(4, V.d (D.int IntKind.i64 ((↑x : Int) - (↑y : Int))))] [] 17)) (fun K => by kernel_rfl) ?_
        refine ⟨b1, b2, by rw [w64] <;> omega, awp_ret ⟨.inl rfl, retD ?_⟩⟩
        show V.d (.int .i64 _) = V.d (.int .i64 _)
        congr 2
        unfold cmpI
        by_cases h1 : y < x
        · have := ht1 h1
          rw [if_pos this]; omega
        · have := ht2 (by omega)
          rw [if_neg (by omega), if_pos this]; omega
      · simp at e
        refine awp_x prog_ok hP hnt [(15, .int .i64 (i - 1 : Int))] [] [] [0, 1, 5] (by kernel_rfl) (G := fun K => IntKind.i64.wrap ((↑i : Int) - (1 : Int)) = (↑i : Int) - (1 : Int) ∧ K (St.mk [(0, V.d (ib l)), (1, V.d (ib m)), (5, V.d (D.int IntKind.i64 ((↑i : Int) - (1 : Int))))] [] 12)) (fun K => by kernel_rfl) ?_
        refine ⟨by rw [w64] <;> omega, i, [], ⟨⟨by omega, hee (by omega)⟩, by omega⟩, ?_⟩
        (constructor <;> simp [hl, envOk, memOk, conv, St.get, St.blk])
    · simp at e
      have : n = 0 := by omega
      subst this
      exact vb_ext fun k => hz k (by omega)
    · (constructor <;> simp [hl, envOk, memOk, conv, St.get, St.blk])
  intro _ h
  refine awp_sx prog_ok hP hnt [] [] [] [4] (by kernel_rfl) (G := fun K => K (St.mk [(4, V.d (D.int IntKind.i64 (0 : Int)))] [] 1)) (fun K => by kernel_rfl) ?_
  refine awp_ret ⟨.inl rfl, retD ?_⟩
  rw [h]
  unfold cmpI
  simp
end Go.Abs

set_option linter.unusedVariables false
set_option linter.unusedSimpArgs false
namespace Go.Abs
section
variable {b : Nat}
theorem vb_splitb (b : Nat) (l : List Nat) (i : Nat) : vb b l = vb b (l.take i) + b ^ i * (l.getD i 0 + b * vb b (l.drop (i + 1))) := by
  by_cases h : i < l.length
  · have := vb_append (b := b) (l.take i) (l.drop i)
    rw [List.take_append_drop, List.length_take, Nat.min_eq_left (by omega)] at this
    rw [this, List.drop_eq_getElem_cons h, vb]
    simp [h]
  · rw [List.take_of_length_le (by omega), List.drop_eq_nil_of_le (by omega), List.getD_eq_getElem?_getD, List.getElem?_eq_none (by omega)]; simp [vb]
theorem vb_digit_le (l : List Nat) (i : Nat) : b ^ i * l.getD i 0 ≤ vb b l := by
  rw [vb_splitb b l i, Nat.mul_add]; omega
theorem vb_put {l : List Nat} {i : Nat} (s : Nat) (h : i < l.length) : vb b (l.set i s) + b ^ i * l.getD i 0 = vb b l + b ^ i * s := by
  rw [vb_splitb b l i, vb_splitb b (l.set i s) i]
  have e1 : (l.set i s).take i = l.take i := by rw [List.take_set]; exact List.set_eq_of_length_le (by rw [List.length_take]; omega)
  have e2 : (l.set i s).drop (i + 1) = l.drop (i + 1) := List.drop_set_of_lt (by omega)
  have e3 : (l.set i s).getD i 0 = s := by rw [List.getD_eq_getElem?_getD]; simp [h]
  rw [e1, e2, e3, Nat.mul_add, Nat.mul_add]; omega
theorem vb_mulstep {o O v : List Nat} {i j c p q w T : Nat} (ho : i + j < o.length) (hw : O[i + j]? = some w) (hq : v[j]? = some q)
    (hT : T = w + p * q + c)
    (h : vb b (o.take (i + j)) + b ^ (i + j) * c = vb b (O.take (i + j)) + b ^ i * p * vb b (v.take j)) :
    vb b ((o.set (i + j) (T % b)).take (i + j + 1)) + b ^ (i + j + 1) * (T / b) = vb b (O.take (i + j + 1)) + b ^ i * p * vb b (v.take (j + 1)) := by
  rw [vb_set ho, vb_take_succ hw, vb_take_succ hq, Nat.pow_succ]
  have e : b * (T / b) + T % b = w + p * q + c := by rw [← hT]; exact Nat.div_add_mod T b
  have e2 : b ^ (i + j) = b ^ i * b ^ j := Nat.pow_add _ _ _
  generalize T / b = d at *
  generalize T % b = s at *
  generalize b ^ i = A at *
  generalize b ^ j = B at *
  generalize b ^ (i + j) = E at *
  have : E * (b * d + s) = E * (w + p * q + c) := by rw [e]
  grind
end
/-- a table of a function -/
def tb {α : Type} (F : Nat → α) (n : Nat) : List α := (List.range n).map F
section
variable {α : Type} {F G : Nat → α} {n : Nat}
@[simp] theorem tb_len : (tb F n).length = n := by simp [tb]
theorem tb_get {k : Nat} (h : k < n) : (tb F n)[k]? = some (F k) := by simp [tb, h]
theorem tb_ext (h : ∀ k, k < n → F k = G k) : tb F n = tb G n := by
  apply List.ext_getElem?
  intro k
  by_cases hk : k < n
  · rw [tb_get hk, tb_get hk, h k hk]
  · rw [List.getElem?_eq_none (by simp; omega), List.getElem?_eq_none (by simp; omega)]
theorem tb_set {j : Nat} {z : α} (hj : G j = z) (h : ∀ k, k ≠ j → k < n → F k = G k) : (tb F n).set j z = tb G n := by
  apply List.ext_getElem?
  intro k
  by_cases hk : k < n
  · rw [tb_get hk, List.getElem?_set]
    by_cases e : j = k
    · subst e; rw [if_pos rfl, if_pos (by simpa using hk), hj]
    · rw [if_neg e, tb_get hk, h k (Ne.symm e) hk]
  · rw [List.getElem?_eq_none (by simp; omega), List.getElem?_eq_none (by simp; omega)]
theorem tb_const (a : α) (n : Nat) : List.replicate n a = tb (fun _ => a) n := by
  apply List.ext_getElem?
  intro k
  by_cases hk : k < n
  · rw [tb_get hk]; simp [hk]
  · rw [List.getElem?_eq_none (by simp; omega), List.getElem?_eq_none (by simp; omega)]
theorem tb_snoc : tb F n ++ [F n] = tb F (n + 1) := by simp [tb, List.range_succ]
end
/-- shifted and cut: the bit of a number -/
theorem bit_word {B s N i : Nat} (hB : B = 2 ^ s) (hs : 0 < s) : N / B ^ (i / s) % B / 2 ^ (i % s) % 2 = N / 2 ^ i % 2 := by
  have h1 : i = s * (i / s) + i % s := (Nat.div_add_mod i s).symm
  have h2 : i % s < s := Nat.mod_lt _ hs
  have h3 : N / 2 ^ i = N / B ^ (i / s) / 2 ^ (i % s) := by
    rw [hB, ← Nat.pow_mul, Nat.div_div_eq_div_mul, ← Nat.pow_add, ← h1]
  rw [h3]
  generalize N / B ^ (i / s) = x
  generalize i % s = r at *
  subst hB
  obtain ⟨t, rfl⟩ : ∃ t, s = r + (t + 1) := ⟨s - r - 1, by omega⟩
  rw [Nat.pow_add, Nat.mod_mul_right_div_self, Nat.pow_succ, Nat.mul_comm (2 ^ t) 2, Nat.mod_mul_right_mod]
theorem pow_split (B s i : Nat) (hB : B = 2 ^ s) : B ^ (i / s) * 2 ^ (i % s) = 2 ^ i := by
  rw [hB, ← Nat.pow_mul, ← Nat.pow_add, Nat.div_add_mod]
end Go.Abs

set_option linter.unusedVariables false
set_option linter.unusedSimpArgs false
namespace Go.Abs
open Go Go.Proofs
set_option maxRecDepth 100000

theorem val_vb (l : List Nat) : val l = vb 4294967296 l := by
  induction l with
  | nil => rfl
  | cons d l ih => rw [val, vb, ih]
theorem zeros_ib (n : Nat) : zeros n [.int .i64 0] = ibs (List.replicate n 0) := fm_zeros (g := i1) 0 n
theorem setCells_ib (l : List Nat) (i s : Nat) : setCells (ibs l) i [.int .i64 s] = ibs (l.set i s) := ibs_set l i s
theorem u64nat {n : Nat} (h : n < 18446744073709551616) : IntKind.u64.wrap (n : Int) = n := u64w (by omega) (by omega)

theorem shrN (x r : Nat) {w : Nat} (h : r ≤ w) : (x : Int).fdiv (2 ^ min ((r : Nat) : Int).toNat w) = ((x / 2 ^ r : Nat) : Int) := by
  rw [Int.toNat_natCast, Nat.min_eq_left h, Int.fdiv_eq_ediv_of_nonneg _ (Int.pow_nonneg (by decide)), Int.natCast_ediv, Int.natCast_pow]; rfl
theorem shlN (x r : Nat) {w : Nat} (h : r ≤ w) : (x : Int) * (2 ^ min ((r : Nat) : Int).toNat w) = ((x * 2 ^ r : Nat) : Int) := by
  rw [Int.toNat_natCast, Nat.min_eq_left h, Int.natCast_mul, Int.natCast_pow]; rfl
theorem i64nat {n : Nat} (h : n ≤ 9223372036854775807) : IntKind.i64.wrap (n : Int) = n := w64 (by omega) (by omega)
theorem u32nat {n : Nat} (h : n < 4294967296) : IntKind.u32.wrap (n : Int) = n := u32w (by omega) (by omega)
theorem drop0 {cs : List D} {i : Nat} {d : D} (h : cs[i]? = some d) : (cs.drop (((i : Nat) : Int).toNat * 1))[0]? = some d := by
  rw [Int.toNat_natCast, Nat.mul_one, List.getElem?_drop, Nat.add_zero]; exact h
theorem ibs_some {l : List Nat} {i x : Nat} (h : l[i]? = some x) : (ibs l)[i]? = some (.int .i64 x) := by rw [ibs_get, h]; rfl
theorem u32s_some {l : List Nat} {i x : Nat} (h : l[i]? = some x) : (u32s l)[i]? = some (.int .u32 x) := by rw [u32s_get, h]; rfl
theorem bof_fn (l : List Nat) (hl1 : Dg l) (hn : l.length ≤ 2 ^ 34) : Fn Try.prog 209 [.d (du l)] [] (.d (ib (db 2 (val l)))) [] := by
  refine fn0 (nt := 28) (res := [.tmp 2]) Try.func209 rfl (by decide) rfl rfl rfl rfl ?_
  intro C hP hnt hl
  refine awp_sx prog_ok hP hnt [] [] [] [0] (by kernel_rfl) (G := fun K => K (St.mk [(0, V.d (du l))] [] 1)) (fun K => by kernel_rfl) ?_
  refine awp_sx prog_ok hP hnt [] [] [] [0, 3] (by kernel_rfl) (G := fun K => K (St.mk [(0, V.d (du l)), (3, V.nil)] [] 2)) (fun K => by kernel_rfl) ?_
  obtain ⟨O, hO⟩ : ∃ O : Nat → List Nat, O = tb fun k => val l / 2 ^ k % 2 := ⟨_, rfl⟩
  have hOl : ∀ i, (O i).length = i := fun i => by rw [hO, tb_len]
  have hOs : ∀ i, ibs (O i) ++ [.int .i64 (val l / 2 ^ i % 2 : Nat)] = ibs (O (i + 1)) := fun i => by rw [ibs_app, hO, tb_snoc]
  refine awp_cut (ι := Unit) (fun _ => ⟨[(3, .own 0 0 (32 * l.length) 1)], [(0, some ⟨ibs (O (32 * l.length)), true⟩)], 1⟩) (fun _ => True) ?_ ?_
  · refine awp_sx prog_ok hP hnt [] [] [] [0, 3, 4] (by kernel_rfl) (G := fun K => K (St.mk [(0, V.d (du l)), (3, V.nil), (4, V.d (D.int IntKind.i64 (0 : Int)))] [] 3)) (fun K => by kernel_rfl) ?_
    refine awp_block ?_
    refine awp_loop (ι := Nat) (fun i => ⟨[(0, .d (du l)), (3, .own 0 0 i 1), (4, .d (.int .i64 i))], [(0, some ⟨ibs (O i), true⟩)], 1⟩)
      (fun i => i ≤ 32 * l.length) (fun i => 32 * l.length - i) 0 [] (by simp) ?_ ?_
    · (constructor <;> simp [hl, envOk, memOk, conv, St.get, St.blk, ibs, fm, hO, tb])
    intro i hi
    refine awp_seq_k fun K hK => ?_
    refine awp_sx prog_ok hP hnt [(8, .int .i64 (32 * l.length : Nat))] [] [] [0, 3, 4, 9] (by kernel_rfl) (G := fun K => IntKind.i64.wrap ((32 : Int) * (↑l.length : Int)) = (↑(32 * l.length) : Int) ∧ K (St.mk [(0, V.d (du l)), (3, V.own 0 0 i 1), (4, V.d (D.int IntKind.i64 (↑i : Int))), (9, V.d (D.bool (decide ((↑i : Int) < (↑(32 * l.length) : Int)))))] [(0, some (Blk.mk (ibs (O i)) true))] 6)) (fun K => by kernel_rfl) ?_
    refine ⟨by rw [w64] <;> omega, ?_⟩
    refine awp_cond rfl (fun e => awp_skip (hK _ ?_)) (fun e => awp_exit ⟨(), [(0, 0)], trivial, ?_⟩)
    · simp at e
      refine awp_seq_k fun K2 hK2 => ?_
      refine awp_block ?_
      have hq : i / 32 < l.length := by omega
      obtain ⟨x, hx⟩ := get_ex hq
      have hx2 := dg_get hl1 hx
      have hbit : x / 2 ^ (i % 32) % 2 = val l / 2 ^ i % 2 := by
        have h1 := bit_word (B := 4294967296) (s := 32) (N := val l) (i := i) rfl (by omega)
        have h2 := vb_digit (b := 4294967296) (by omega) (i / 32) hl1
        rw [← val_vb] at h2
        rw [h2, List.getD_eq_getElem?_getD, hx] at h1
        exact h1
      refine awp_x prog_ok hP hnt [(15, .int .i64 (i / 32 : Nat)), (19, .int .i64 (i % 32 : Nat)), (20, .int .u64 (i % 32 : Nat)), (21, .int .u32 (x / 2 ^ (i % 32) : Nat)), (22, .int .u32 (x / 2 ^ (i % 32) % 2 : Nat)), (23, .int .i64 (x / 2 ^ (i % 32) % 2 : Nat))] [] [some [.int .u32 x]] [0, 3, 4] (by kernel_rfl) (G := fun K => (32 : Int) ≠ (0 : Int) ∧ IntKind.i64.wrap ((↑i : Int).tdiv (32 : Int)) = (↑(i / 32) : Int) ∧ ((0 : Int) ≤ (↑(i / 32) : Int) ∧ (↑(i / 32) : Int) < (↑l.length : Int) ∧ ((↑(i / 32) : Int).toNat + 1) * 1 ≤ (u32s l).length) ∧ (List.drop ((↑(i / 32) : Int).toNat * 1) (u32s l))[0]? = some (D.int IntKind.u32 (↑x : Int)) ∧ (32 : Int) ≠ (0 : Int) ∧ (↑i : Int).tmod (32 : Int) = (↑(i % 32) : Int) ∧ IntKind.u64.wrap (↑(i % 32) : Int) = (↑(i % 32) : Int) ∧ (0 : Int) ≤ (↑(i % 32) : Int) ∧ (↑x : Int).fdiv ((2 : Int) ^ min (↑(i % 32) : Int).toNat IntKind.u32.bits) = (↑(x / 2 ^ (i % 32)) : Int) ∧ (2 : Int) ≠ (0 : Int) ∧ (↑(x / 2 ^ (i % 32)) : Int).tmod (2 : Int) = (↑(x / 2 ^ (i % 32) % 2) : Int) ∧ IntKind.i64.wrap (↑(x / 2 ^ (i % 32) % 2) : Int) = (↑(x / 2 ^ (i % 32) % 2) : Int) ∧ 1 = 1 ∧ ((ibs (O i)).length = i * 1 ∧ (i + 1) * 8 ≤ 2 ^ 47) ∧ K (St.mk [(0, V.d (du l)), (3, V.own 19 0 (i + 1) 1), (4, V.d (D.int IntKind.i64 (↑i : Int)))] [(0, none), (19, some (Blk.mk (ibs (O i) ++ setCells (zeros 1 (TI.mk (Kind.int IntKind.i64) 1 8 [D.int IntKind.i64 (0 : Int)]).zero) 0 [D.int IntKind.i64 (↑(x / 2 ^ (i % 32) % 2) : Int)]) true))] 21)) (fun K => by kernel_rfl) ?_
      have hs := hOs i
      rw [← hbit] at hs
      refine ⟨by decide, tdivN i 32 (by omega), ⟨by omega, by omega, by simp; omega⟩, drop0 (u32s_some hx), by decide, tmodN i 32, u64nat (by omega), by omega, shrN x (i % 32) (w := IntKind.u32.bits) (by show i % 32 ≤ 32; omega), by decide, tmodN _ 2, i64nat (by omega), rfl, ⟨by rw [ibs_len, hOl, Nat.mul_one], by omega⟩, hK2 _ ?_⟩
      refine awp_x prog_ok hP hnt [(11, .int .i64 (i + 1 : Nat))] [] [] [0, 3, 4] (by kernel_rfl) (G := fun K => IntKind.i64.wrap ((↑i : Int) + (1 : Int)) = (↑(i + 1) : Int) ∧ K (St.mk [(0, V.d (du l)), (3, V.own 19 0 (i + 1) 1), (4, V.d (D.int IntKind.i64 (↑(i + 1) : Int)))] [(0, none), (19, some (Blk.mk (ibs (O i) ++ setCells (zeros 1 (TI.mk (Kind.int IntKind.i64) 1 8 [D.int IntKind.i64 (0 : Int)]).zero) 0 [D.int IntKind.i64 (↑(x / 2 ^ (i % 32) % 2) : Int)]) true))] 24)) (fun K => by kernel_rfl) ?_
      refine ⟨by rw [w64] <;> omega, i + 1, [(0, 19)], ⟨by omega, by omega⟩, ?_⟩
      (constructor <;> simp [hl, envOk, memOk, conv, St.get, St.blk, ← hs, setCells, zeros])
    · simp at e
      have : i = 32 * l.length := by omega
      subst this
      (constructor <;> simp [hl, envOk, memOk, conv, St.get, St.blk])
  intro _ _
  have hdb : Db 2 (O (32 * l.length)) := fun d hd => by
    rw [hO] at hd
    simp only [tb, List.mem_map] at hd
    obtain ⟨k, _, rfl⟩ := hd
    omega
  have hval : vb 2 (O (32 * l.length)) = val l := by
    rw [vb_of_digits (b := 2) (N := val l) (by omega) (fun i x hx => by
      have hi := (List.getElem?_eq_some_iff.1 hx).1
      rw [hOl] at hi
      rw [hO, tb_get hi] at hx
      exact (Option.some.inj hx).symm), hOl]
    have := val_lt hl1
    rw [show (4294967296 : Nat) = 2 ^ 32 by rfl, ← Nat.pow_mul] at this
    exact Nat.mod_eq_of_lt this
  have hbt := btrim_fn (O (32 * l.length)) hdb (by rw [hOl]; omega)
  rw [hval] at hbt
  refine awp_sx prog_ok hP hnt [] [.val (.d (ib (db 2 (val l))))] [] [2] (by kernel_rfl) (G := fun K => Fn Try.prog 166 [V.d (D.lst (32 * l.length) (List.take (32 * l.length * 1) (List.drop 0 (ibs (O (32 * l.length))))))] [] (V.d (ib (db 2 (val l)))) [] ∧ K (St.mk [(2, V.d (ib (db 2 (val l))))] [(0, some (Blk.mk (ibs (O (32 * l.length))) false))] 4)) (fun K => by kernel_rfl) ?_
  refine ⟨?_, awp_ret ⟨.inl rfl, retD rfl⟩⟩
  have := own_fm i1_len (hOl (32 * l.length))
  rw [this]
  exact hbt

theorem words_fn (l : List Nat) (hl1 : Db 2 l) (hn : l.length ≤ 2 ^ 39) : ∃ o, Db 32768 o ∧ vb 32768 o = vb 2 l ∧ o.length = (l.length + 14) / 15 ∧ Fn Try.prog 241 [.d (ib l)] [] (.d (ib o)) [] := by
  obtain ⟨W, hW⟩ : ∃ W, W = (l.length + 14) / 15 := ⟨_, rfl⟩
  -- the words behind i bits
  obtain ⟨O, hO0, hO⟩ : ∃ O : Nat → List Nat, O 0 = List.replicate W 0 ∧ ∀ i, O (i + 1) = (O i).set (i / 15) ((O i).getD (i / 15) 0 + l.getD i 0 * 2 ^ (i % 15)) :=
    ⟨fun i => Nat.rec (List.replicate W 0) (fun i o => o.set (i / 15) (o.getD (i / 15) 0 + l.getD i 0 * 2 ^ (i % 15))) i, rfl, fun _ => rfl⟩
  have hOl : ∀ i, (O i).length = W := fun i => by
    induction i with
    | zero => rw [hO0]; simp
    | succ i ih => rw [hO, List.length_set, ih]
  have key : ∀ i, i ≤ l.length → Db 32768 (O i) ∧ vb 32768 (O i) = vb 2 (l.take i) := fun i => by
    induction i with
    | zero => intro _; rw [hO0]; exact ⟨fun d hd => by rw [List.mem_replicate] at hd; omega, by rw [vb_zeros]; simp [vb]⟩
    | succ i ih =>
      intro hi
      obtain ⟨h1, h2⟩ := ih (by omega)
      have hq : i / 15 < (O i).length := by rw [hOl]; omega
      have hlt : vb 2 (l.take i) < 2 ^ i := by
        have := vb_lt (b := 2) (by omega) (db_take hl1 i)
        rwa [List.length_take, Nat.min_eq_left (by omega)] at this
      have hd := vb_digit_le (b := 32768) (O i) (i / 15)
      rw [h2] at hd
      have hsp := pow_split 32768 15 i rfl
      have hdig : (O i).getD (i / 15) 0 < 2 ^ (i % 15) := by
        apply Nat.lt_of_mul_lt_mul_left (a := 32768 ^ (i / 15))
        rw [hsp]; omega
      have hx := db_getD (b := 2) (by omega) hl1 i
      have hput := vb_put (b := 32768) ((O i).getD (i / 15) 0 + l.getD i 0 * 2 ^ (i % 15)) hq
      rw [hO]
      refine ⟨db_set h1 ?_, ?_⟩
      · have h3 : 2 ^ (i % 15) ≤ 2 ^ 14 := Nat.pow_le_pow_right (by omega) (by omega)
        have h4 : l.getD i 0 * 2 ^ (i % 15) ≤ 1 * 2 ^ (i % 15) := Nat.mul_le_mul_right _ (by omega)
        omega
      · rw [vb_take_D, ← h2, ← hsp]
        generalize 32768 ^ (i / 15) = A at *
        generalize 2 ^ (i % 15) = B at *
        grind
  refine ⟨O l.length, (key _ (Nat.le_refl _)).1, by rw [(key _ (Nat.le_refl _)).2, List.take_length], by rw [hOl, hW], ?_⟩
  refine fn0 (nt := 32) (res := [.tmp 2]) Try.func241 rfl (by decide) rfl rfl rfl rfl ?_
  intro C hP hnt hl
  refine awp_sx prog_ok hP hnt [] [] [] [0] (by kernel_rfl) (G := fun K => K (St.mk [(0, V.d (ib l))] [] 1)) (fun K => by kernel_rfl) ?_
  refine awp_sx prog_ok hP hnt [(7, .int .i64 (l.length + 14 : Nat)), (8, .int .i64 W)] [] [] [0, 3] (by kernel_rfl) (G := fun K => IntKind.i64.wrap ((↑l.length : Int) + (14 : Int)) = (↑(l.length + 14) : Int) ∧ (15 : Int) ≠ (0 : Int) ∧ IntKind.i64.wrap ((↑(l.length + 14) : Int).tdiv (15 : Int)) = (↑W : Int) ∧ ((↑W : Int) = (↑W : Int) ∧ (0 : Int) ≤ (↑W : Int) ∧ (↑W : Int) * (↑8 : Int) ≤ (2 : Int) ^ 47) ∧ K (St.mk [(0, V.d (ib l)), (3, V.own 5 0 (↑W : Int).toNat 1)] [(5, some (Blk.mk (zeros (↑W : Int).toNat (TI.mk (Kind.int IntKind.i64) 1 8 [D.int IntKind.i64 (0 : Int)]).zero) true))] 7)) (fun K => by kernel_rfl) ?_
  refine ⟨by rw [w64] <;> omega, by decide, by rw [hW]; exact tdivN (l.length + 14) 15 (by omega), by omega, ?_⟩
  refine awp_cut (ι := Unit) (fun _ => ⟨[(3, .own 0 0 W 1)], [(0, some ⟨ibs (O l.length), true⟩)], 1⟩) (fun _ => True) ?_ ?_
  · refine awp_sx prog_ok hP hnt [] [] [] [0, 3, 4] (by kernel_rfl) (G := fun K => K (St.mk [(0, V.d (ib l)), (3, V.own 5 0 (↑W : Int).toNat 1), (4, V.d (D.int IntKind.i64 (0 : Int)))] [(5, some (Blk.mk (zeros (↑W : Int).toNat (TI.mk (Kind.int IntKind.i64) 1 8 [D.int IntKind.i64 (0 : Int)]).zero) true))] 8)) (fun K => by kernel_rfl) ?_
    refine awp_block ?_
    refine awp_loop (ι := Nat) (fun i => ⟨[(0, .d (ib l)), (3, .own 0 0 W 1), (4, .d (.int .i64 i))], [(0, some ⟨ibs (O i), true⟩)], 1⟩)
      (fun i => i ≤ l.length) (fun i => l.length - i) 0 [(0, 5)] (by simp) ?_ ?_
    · (constructor <;> simp [hl, envOk, memOk, conv, St.get, St.blk, zeros_ib, hO0])
    intro i hi
    refine awp_seq_k fun K hK => ?_
    refine awp_sx prog_ok hP hnt [] [] [] [0, 3, 4, 13] (by kernel_rfl) (G := fun K => K (St.mk [(0, V.d (ib l)), (3, V.own 0 0 W 1), (4, V.d (D.int IntKind.i64 (↑i : Int))), (13, V.d (D.bool (decide ((↑i : Int) < (↑l.length : Int)))))] [(0, some (Blk.mk (ibs (O i)) true))] 5)) (fun K => by kernel_rfl) ?_
    refine awp_cond rfl (fun e => awp_skip (hK _ ?_)) (fun e => awp_exit ⟨(), [(0, 0)], trivial, ?_⟩)
    · simp at e
      refine awp_seq_k fun K2 hK2 => ?_
      refine awp_block ?_
      obtain ⟨h1, h2⟩ := key i hi
      have hq : i / 15 < W := by omega
      obtain ⟨x, hx⟩ := get_ex (l := l) (i := i) e
      have hxd : l.getD i 0 = x := by rw [List.getD_eq_getElem?_getD, hx]; rfl
      have hx2 : x < 2 := db_get hl1 hx
      obtain ⟨y, hy⟩ := get_ex (l := O i) (i := i / 15) (by rw [hOl]; exact hq)
      have hyd : (O i).getD (i / 15) 0 = y := by rw [List.getD_eq_getElem?_getD, hy]; rfl
      have hy2 : y < 32768 := db_get h1 hy
      have hOi := hO i
      rw [hxd, hyd] at hOi
      have h3 : 2 ^ (i % 15) ≤ 2 ^ 14 := Nat.pow_le_pow_right (by omega) (by omega)
      have h4 : x * 2 ^ (i % 15) ≤ 1 * 2 ^ (i % 15) := Nat.mul_le_mul_right _ (by omega)
      refine awp_x prog_ok hP hnt [(18, .int .i64 (i / 15 : Nat)), (26, .int .i64 (i % 15 : Nat)), (27, .int .u64 (i % 15 : Nat)), (28, .int .i64 (x * 2 ^ (i % 15) : Nat)), (29, .int .i64 (y + x * 2 ^ (i % 15) : Nat))] [] [some [.int .i64 y], some [.int .i64 x]] [0, 3, 4] (by kernel_rfl) (G := fun K => (15 : Int) ≠ (0 : Int) ∧ IntKind.i64.wrap ((↑i : Int).tdiv (15 : Int)) = (↑(i / 15) : Int) ∧ ((0 : Int) ≤ (↑(i / 15) : Int) ∧ (↑(i / 15) : Int) < (↑W : Int)) ∧ (ibs (O i))[0 + (↑(i / 15) : Int).toNat * 1]? = some (D.int IntKind.i64 (↑y : Int)) ∧ ((0 : Int) ≤ (↑i : Int) ∧ (↑i : Int) < (↑l.length : Int) ∧ ((↑i : Int).toNat + 1) * 1 ≤ (ibs l).length) ∧ (List.drop ((↑i : Int).toNat * 1) (ibs l))[0]? = some (D.int IntKind.i64 (↑x : Int)) ∧ (15 : Int) ≠ (0 : Int) ∧ (↑i : Int).tmod (15 : Int) = (↑(i % 15) : Int) ∧ IntKind.u64.wrap (↑(i % 15) : Int) = (↑(i % 15) : Int) ∧ (0 : Int) ≤ (↑(i % 15) : Int) ∧ IntKind.i64.wrap ((↑x : Int) * (2 : Int) ^ min (↑(i % 15) : Int).toNat IntKind.i64.bits) = (↑(x * 2 ^ (i % 15)) : Int) ∧ IntKind.i64.wrap ((↑y : Int) + (↑(x * 2 ^ (i % 15)) : Int)) = (↑(y + x * 2 ^ (i % 15)) : Int) ∧ ((0 : Int) ≤ (↑(i / 15) : Int) ∧ (↑(i / 15) : Int) < (↑W : Int)) ∧ 0 + (↑(i / 15) : Int).toNat * 1 + [D.int IntKind.i64 (↑(y + x * 2 ^ (i % 15)) : Int)].length ≤ (ibs (O i)).length ∧ K (St.mk [(0, V.d (ib l)), (3, V.own 0 0 W 1), (4, V.d (D.int IntKind.i64 (↑i : Int)))] [(0, some (Blk.mk (setCells (ibs (O i)) (0 + (↑(i / 15) : Int).toNat * 1) [D.int IntKind.i64 (↑(y + x * 2 ^ (i % 15)) : Int)]) true))] 21)) (fun K => by kernel_rfl) ?_
      refine ⟨by decide, tdivN i 15 (by omega), ⟨by omega, by omega⟩, by rw [Int.toNat_natCast, Nat.zero_add, Nat.mul_one]; exact ibs_some hy, ⟨by omega, by omega, by simp; omega⟩, drop0 (ibs_some hx), by decide, tmodN i 15, u64nat (by omega), by omega,
        by rw [shlN x (i % 15) (w := IntKind.i64.bits) (by show i % 15 ≤ 64; omega)]; exact i64nat (by omega), by rw [← Int.natCast_add]; exact i64nat (by omega), ⟨by omega, by omega⟩, by rw [Int.toNat_natCast, ibs_len, hOl]; show 0 + i / 15 * 1 + 1 ≤ W; omega, hK2 _ ?_⟩
      have hsc := setCells_ib (O i) (i / 15) (y + x * 2 ^ (i % 15))
      rw [← hOi] at hsc
      refine awp_x prog_ok hP hnt [(15, .int .i64 (i + 1 : Nat))] [] [] [0, 3, 4] (by kernel_rfl) (G := fun K => IntKind.i64.wrap ((↑i : Int) + (1 : Int)) = (↑(i + 1) : Int) ∧ K (St.mk [(0, V.d (ib l)), (3, V.own 0 0 W 1), (4, V.d (D.int IntKind.i64 (↑(i + 1) : Int)))] [(0, some (Blk.mk (setCells (ibs (O i)) (0 + (↑(i / 15) : Int).toNat * 1) [D.int IntKind.i64 (↑(y + x * 2 ^ (i % 15)) : Int)]) true))] 24)) (fun K => by kernel_rfl) ?_
      refine ⟨by rw [w64] <;> omega, i + 1, [(0, 0)], ⟨by omega, by omega⟩, ?_⟩
      rw [Int.toNat_natCast, Nat.mul_one, Nat.zero_add, hsc]
      (constructor <;> simp [hl, envOk, memOk, conv, St.get, St.blk])
    · simp at e
      have : i = l.length := by omega
      subst this
      (constructor <;> simp [hl, envOk, memOk, conv, St.get, St.blk])
  intro _ _
  refine awp_sx prog_ok hP hnt [] [] [] [2] (by kernel_rfl) (G := fun K => K (St.mk [(2, V.own 0 0 W 1)] [(0, some (Blk.mk (ibs (O l.length)) true))] 3)) (fun K => by kernel_rfl) ?_
  refine awp_ret ⟨.inl rfl, retOwn rfl rfl ?_⟩
  rw [ib, hOl]
  have := own_fm i1_len (hOl l.length)
  rw [hOl] at this
  exact this

theorem bits_fn (l : List Nat) (hl1 : Db 32768 l) (hn : l.length ≤ 2 ^ 36) : Fn Try.prog 242 [.d (ib l)] [] (.d (ib (db 2 (vb 32768 l)))) [] := by
  refine fn0 (nt := 30) (res := [.tmp 2]) Try.func242 rfl (by decide) rfl rfl rfl rfl ?_
  intro C hP hnt hl
  obtain ⟨N, hN⟩ : ∃ N, N = vb 32768 l := ⟨_, rfl⟩
  rw [← hN]
  obtain ⟨O, hO⟩ : ∃ O : Nat → List Nat, O = fun i => tb (fun k => if k < i then N / 2 ^ k % 2 else 0) (15 * l.length) := ⟨_, rfl⟩
  have hOl : ∀ i, (O i).length = 15 * l.length := fun i => by rw [hO]; simp
  have hOs : ∀ i, (O i).set i (N / 2 ^ i % 2) = O (i + 1) := fun i => by
    rw [hO]
    refine tb_set (by simp) fun k hk _ => ?_
    by_cases h : k < i
    · rw [if_pos h, if_pos (by omega)]
    · rw [if_neg h, if_neg (by omega)]
  refine awp_sx prog_ok hP hnt [] [] [] [0] (by kernel_rfl) (G := fun K => K (St.mk [(0, V.d (ib l))] [] 1)) (fun K => by kernel_rfl) ?_
  refine awp_sx prog_ok hP hnt [(7, .int .i64 (15 * l.length : Nat))] [] [] [0, 3] (by kernel_rfl) (G := fun K => IntKind.i64.wrap ((15 : Int) * (↑l.length : Int)) = (↑(15 * l.length) : Int) ∧ ((↑(15 * l.length) : Int) = (↑(15 * l.length) : Int) ∧ (0 : Int) ≤ (↑(15 * l.length) : Int) ∧ (↑(15 * l.length) : Int) * (↑8 : Int) ≤ (2 : Int) ^ 47) ∧ K (St.mk [(0, V.d (ib l)), (3, V.own 4 0 (↑(15 * l.length) : Int).toNat 1)] [(4, some (Blk.mk (zeros (↑(15 * l.length) : Int).toNat (TI.mk (Kind.int IntKind.i64) 1 8 [D.int IntKind.i64 (0 : Int)]).zero) true))] 6)) (fun K => by kernel_rfl) ?_
  refine ⟨by rw [w64] <;> omega, by omega, ?_⟩
  refine awp_cut (ι := Unit) (fun _ => ⟨[(3, .own 0 0 (15 * l.length) 1)], [(0, some ⟨ibs (O (15 * l.length)), true⟩)], 1⟩) (fun _ => True) ?_ ?_
  · refine awp_sx prog_ok hP hnt [] [] [] [0, 3, 4] (by kernel_rfl) (G := fun K => K (St.mk [(0, V.d (ib l)), (3, V.own 4 0 (↑(15 * l.length) : Int).toNat 1), (4, V.d (D.int IntKind.i64 (0 : Int)))] [(4, some (Blk.mk (zeros (↑(15 * l.length) : Int).toNat (TI.mk (Kind.int IntKind.i64) 1 8 [D.int IntKind.i64 (0 : Int)]).zero) true))] 7)) (fun K => by kernel_rfl) ?_
    refine awp_block ?_
    refine awp_loop (ι := Nat) (fun i => ⟨[(0, .d (ib l)), (3, .own 0 0 (15 * l.length) 1), (4, .d (.int .i64 i))], [(0, some ⟨ibs (O i), true⟩)], 1⟩)
      (fun i => i ≤ 15 * l.length) (fun i => 15 * l.length - i) 0 [(0, 4)] (by simp) ?_ ?_
    · have h0 : zeros (15 * l.length) [D.int IntKind.i64 0] = ibs (O 0) := by rw [zeros_ib, hO, tb_const]; rfl
      rw [Int.toNat_natCast, h0]
      (constructor <;> simp [hl, envOk, memOk, conv, St.get, St.blk])
    intro i hi
    refine awp_seq_k fun K hK => ?_
    refine awp_sx prog_ok hP hnt [] [] [] [0, 3, 4, 12] (by kernel_rfl) (G := fun K => K (St.mk [(0, V.d (ib l)), (3, V.own 0 0 (15 * l.length) 1), (4, V.d (D.int IntKind.i64 (↑i : Int))), (12, V.d (D.bool (decide ((↑i : Int) < (↑(15 * l.length) : Int)))))] [(0, some (Blk.mk (ibs (O i)) true))] 5)) (fun K => by kernel_rfl) ?_
    refine awp_cond rfl (fun e => awp_skip (hK _ ?_)) (fun e => awp_exit ⟨(), [(0, 0)], trivial, ?_⟩)
    · simp at e
      refine awp_seq_k fun K2 hK2 => ?_
      refine awp_block ?_
      have hq : i / 15 < l.length := by omega
      obtain ⟨x, hx⟩ := get_ex hq
      have hx2 := db_get hl1 hx
      have hbit : x / 2 ^ (i % 15) % 2 = N / 2 ^ i % 2 := by
        have h1 := bit_word (B := 32768) (s := 15) (N := N) (i := i) rfl (by omega)
        have h2 := vb_digit (b := 32768) (by omega) (i / 15) hl1
        rw [← hN] at h2
        rw [h2, List.getD_eq_getElem?_getD, hx] at h1
        exact h1
      have hsc := setCells_ib (O i) i (x / 2 ^ (i % 15) % 2)
      rw [hbit, hOs, ← hbit] at hsc
      have hxs : x / 2 ^ (i % 15) ≤ x := Nat.div_le_self _ _
      refine awp_x prog_ok hP hnt [(19, .int .i64 (i / 15 : Nat)), (23, .int .i64 (i % 15 : Nat)), (24, .int .u64 (i % 15 : Nat)), (25, .int .i64 (x / 2 ^ (i % 15) : Nat)), (26, .int .i64 (x / 2 ^ (i % 15) % 2 : Nat))] [] [some [.int .i64 x]] [0, 3, 4] (by kernel_rfl) (G := fun K => (15 : Int) ≠ (0 : Int) ∧ IntKind.i64.wrap ((↑i : Int).tdiv (15 : Int)) = (↑(i / 15) : Int) ∧ ((0 : Int) ≤ (↑(i / 15) : Int) ∧ (↑(i / 15) : Int) < (↑l.length : Int) ∧ ((↑(i / 15) : Int).toNat + 1) * 1 ≤ (ibs l).length) ∧ (List.drop ((↑(i / 15) : Int).toNat * 1) (ibs l))[0]? = some (D.int IntKind.i64 (↑x : Int)) ∧ (15 : Int) ≠ (0 : Int) ∧ (↑i : Int).tmod (15 : Int) = (↑(i % 15) : Int) ∧ IntKind.u64.wrap (↑(i % 15) : Int) = (↑(i % 15) : Int) ∧ (0 : Int) ≤ (↑(i % 15) : Int) ∧ (↑x : Int).fdiv ((2 : Int) ^ min (↑(i % 15) : Int).toNat IntKind.i64.bits) = (↑(x / 2 ^ (i % 15)) : Int) ∧ (2 : Int) ≠ (0 : Int) ∧ (↑(x / 2 ^ (i % 15)) : Int).tmod (2 : Int) = (↑(x / 2 ^ (i % 15) % 2) : Int) ∧ ((0 : Int) ≤ (↑i : Int) ∧ (↑i : Int) < (↑(15 * l.length) : Int)) ∧ 0 + (↑i : Int).toNat * 1 + [D.int IntKind.i64 (↑(x / 2 ^ (i % 15) % 2) : Int)].length ≤ (ibs (O i)).length ∧ K (St.mk [(0, V.d (ib l)), (3, V.own 0 0 (15 * l.length) 1), (4, V.d (D.int IntKind.i64 (↑i : Int)))] [(0, some (Blk.mk (setCells (ibs (O i)) (0 + (↑i : Int).toNat * 1) [D.int IntKind.i64 (↑(x / 2 ^ (i % 15) % 2) : Int)]) true))] 19)) (fun K => by kernel_rfl) ?_
      refine ⟨by decide, tdivN i 15 (by omega), ⟨by omega, by omega, by simp; omega⟩, drop0 (ibs_some hx), by decide, tmodN i 15, u64nat (by omega), by omega, shrN x (i % 15) (w := IntKind.i64.bits) (by show i % 15 ≤ 64; omega), by decide, tmodN _ 2,
        ⟨by omega, by omega⟩, by rw [Int.toNat_natCast, ibs_len, hOl]; show 0 + i * 1 + 1 ≤ 15 * l.length; omega, hK2 _ ?_⟩
      refine awp_x prog_ok hP hnt [(14, .int .i64 (i + 1 : Nat))] [] [] [0, 3, 4] (by kernel_rfl) (G := fun K => IntKind.i64.wrap ((↑i : Int) + (1 : Int)) = (↑(i + 1) : Int) ∧ K (St.mk [(0, V.d (ib l)), (3, V.own 0 0 (15 * l.length) 1), (4, V.d (D.int IntKind.i64 (↑(i + 1) : Int)))] [(0, some (Blk.mk (setCells (ibs (O i)) (0 + (↑i : Int).toNat * 1) [D.int IntKind.i64 (↑(x / 2 ^ (i % 15) % 2) : Int)]) true))] 22)) (fun K => by kernel_rfl) ?_
      refine ⟨by rw [w64] <;> omega, i + 1, [(0, 0)], ⟨by omega, by omega⟩, ?_⟩
      rw [Int.toNat_natCast, Nat.mul_one, Nat.zero_add, hsc]
      (constructor <;> simp [hl, envOk, memOk, conv, St.get, St.blk])
    · simp at e
      have : i = 15 * l.length := by omega
      subst this
      (constructor <;> simp [hl, envOk, memOk, conv, St.get, St.blk])
  intro _ _
  have hdb : Db 2 (O (15 * l.length)) := fun d hd => by
    rw [hO] at hd
    simp only [tb, List.mem_map] at hd
    obtain ⟨k, _, rfl⟩ := hd
    split <;> omega
  have hval : vb 2 (O (15 * l.length)) = N := by
    rw [vb_of_digits (b := 2) (N := N) (by omega) (fun i x hx => by
      have hi := (List.getElem?_eq_some_iff.1 hx).1
      rw [hOl] at hi
      simp only [hO] at hx
      rw [tb_get hi, if_pos hi] at hx
      exact (Option.some.inj hx).symm), hOl]
    have := vb_lt (b := 32768) (by omega) hl1
    rw [show (32768 : Nat) = 2 ^ 15 by rfl, ← Nat.pow_mul, ← hN] at this
    exact Nat.mod_eq_of_lt this
  have hbt := btrim_fn (O (15 * l.length)) hdb (by rw [hOl]; omega)
  rw [hval] at hbt
  refine awp_sx prog_ok hP hnt [] [.val (.d (ib (db 2 N)))] [] [2] (by kernel_rfl) (G := fun K => Fn Try.prog 166 [V.d (D.lst (15 * l.length) (List.take (15 * l.length * 1) (List.drop 0 (ibs (O (15 * l.length))))))] [] (V.d (ib (db 2 N))) [] ∧ K (St.mk [(2, V.d (ib (db 2 N)))] [(0, some (Blk.mk (ibs (O (15 * l.length))) false))] 4)) (fun K => by kernel_rfl) ?_
  refine ⟨?_, awp_ret ⟨.inl rfl, retD rfl⟩⟩
  have := own_fm i1_len (hOl (15 * l.length))
  rw [this]
  exact hbt

theorem mul15 {p q w c : Nat} (hp : p < 32768) (hq : q < 32768) (hw : w < 32768) (hc : c < 32768) : w + p * q + c < 1073741824 ∧ (w + p * q + c) / 32768 < 32768 := by
  have h1 : p * q ≤ 32767 * 32767 := Nat.mul_le_mul (by omega) (by omega)
  generalize p * q = z at *
  omega
theorem bmul_fn (l m : List Nat) (hl1 : Db 2 l) (hm1 : Db 2 m) (hln : l.length ≤ 2 ^ 36) (hmn : m.length ≤ 2 ^ 36) : Fn Try.prog 210 [.d (ib l), .d (ib m)] [] (.d (ib (db 2 (vb 2 l * vb 2 m)))) [] := by
  obtain ⟨x, hx1, hx2, hx3, hx⟩ := words_fn l hl1 (by omega)
  obtain ⟨y, hy1, hy2, hy3, hy⟩ := words_fn m hm1 (by omega)
  refine fn0 (nt := 73) (res := [.tmp 4]) Try.func210 rfl (by decide) rfl rfl rfl rfl ?_
  intro C hP hnt hl
  obtain ⟨N, hN⟩ : ∃ N, N = x.length + y.length := ⟨_, rfl⟩
  refine awp_sx prog_ok hP hnt [] [] [] [0, 1] (by kernel_rfl) (G := fun K => K (St.mk [(0, V.d (ib l)), (1, V.d (ib m))] [] 1)) (fun K => by kernel_rfl) ?_
  refine awp_sx prog_ok hP hnt [] [.val (.d (ib x)), .val (.d (ib y))] [] [5, 6] (by kernel_rfl) (G := fun K => Fn Try.prog 241 [V.d (ib l)] [] (V.d (ib x)) [] ∧ Fn Try.prog 241 [V.d (ib m)] [] (V.d (ib y)) [] ∧ K (St.mk [(5, V.d (ib x)), (6, V.d (ib y))] [] 7)) (fun K => by kernel_rfl) ?_
  refine ⟨hx, hy, ?_⟩
  refine awp_sx prog_ok hP hnt [(20, .int .i64 N)] [] [] [5, 6, 7] (by kernel_rfl) (G := fun K => IntKind.i64.wrap ((↑x.length : Int) + (↑y.length : Int)) = (↑N : Int) ∧ ((↑N : Int) = (↑N : Int) ∧ (0 : Int) ≤ (↑N : Int) ∧ (↑N : Int) * (↑8 : Int) ≤ (2 : Int) ^ 47) ∧ K (St.mk [(5, V.d (ib x)), (6, V.d (ib y)), (7, V.own 12 0 (↑N : Int).toNat 1)] [(12, some (Blk.mk (zeros (↑N : Int).toNat (TI.mk (Kind.int IntKind.i64) 1 8 [D.int IntKind.i64 (0 : Int)]).zero) true))] 14)) (fun K => by kernel_rfl) ?_
  refine ⟨by rw [w64] <;> omega, by omega, ?_⟩
  refine awp_cut (ι := List Nat) (fun o => ⟨[(7, .own 0 0 N 1)], [(0, some ⟨ibs o, true⟩)], 1⟩) (fun o => o.length = N ∧ Db 32768 o ∧ vb 32768 o = vb 2 l * vb 2 m) ?_ ?_
  · refine awp_sx prog_ok hP hnt [] [] [] [5, 6, 7, 8] (by kernel_rfl) (G := fun K => K (St.mk [(5, V.d (ib x)), (6, V.d (ib y)), (7, V.own 12 0 (↑N : Int).toNat 1), (8, V.d (D.int IntKind.i64 (0 : Int)))] [(12, some (Blk.mk (zeros (↑N : Int).toNat (TI.mk (Kind.int IntKind.i64) 1 8 [D.int IntKind.i64 (0 : Int)]).zero) true))] 15)) (fun K => by kernel_rfl) ?_
    refine awp_block ?_
    refine awp_loop (ι := Nat × List Nat) (fun p => ⟨[(5, .d (ib x)), (6, .d (ib y)), (7, .own 0 0 N 1), (8, .d (.int .i64 p.1))], [(0, some ⟨ibs p.2, true⟩)], 1⟩)
      (fun p => p.1 ≤ x.length ∧ p.2.length = N ∧ Db 32768 p.2 ∧ vb 32768 p.2 = vb 32768 (x.take p.1) * vb 32768 y ∧ ∀ k, p.1 + y.length ≤ k → p.2.getD k 0 = 0) (fun p => x.length - p.1) (0, List.replicate N 0) [(0, 12)]
      ⟨by simp, by simp, (fun d hd => by rw [List.mem_replicate] at hd; omega), by simp [vb_zeros, vb], fun k _ => by simp [List.getD_eq_getElem?_getD, List.getElem?_replicate]; split <;> rfl⟩ ?_ ?_
    · rw [Int.toNat_natCast]
      (constructor <;> simp [hl, envOk, memOk, conv, St.get, St.blk, zeros_ib])
    intro ⟨i, O⟩ ⟨hi, hOl, hOd, hOv, hOz⟩
    simp only at hi hOl hOd hOv hOz ⊢
    refine awp_seq_k fun K hK => ?_
    refine awp_sx prog_ok hP hnt [] [] [] [5, 6, 7, 8, 25] (by kernel_rfl) (G := fun K => K (St.mk [(5, V.d (ib x)), (6, V.d (ib y)), (7, V.own 0 0 N 1), (8, V.d (D.int IntKind.i64 (↑i : Int))), (25, V.d (D.bool (decide ((↑i : Int) < (↑x.length : Int)))))] [(0, some (Blk.mk (ibs O) true))] 5)) (fun K => by kernel_rfl) ?_
    refine awp_cond rfl (fun e => awp_skip (hK _ ?_)) (fun e => awp_exit ⟨O, [(0, 0)], ?_, ?_⟩)
    · simp at e
      obtain ⟨p, hp⟩ := get_ex (l := x) (i := i) e
      have hp2 := db_get hx1 hp
      refine awp_seq_k fun K2 hK2 => ?_
      refine awp_block ?_
      refine awp_sx prog_ok hP hnt [] [] [] [5, 6, 7, 8, 9] (by kernel_rfl) (G := fun K => K (St.mk [(5, V.d (ib x)), (6, V.d (ib y)), (7, V.own 0 0 N 1), (8, V.d (D.int IntKind.i64 (↑i : Int))), (9, V.d (D.int IntKind.i64 (0 : Int)))] [(0, some (Blk.mk (ibs O) true))] 6)) (fun K => by kernel_rfl) ?_
      refine awp_cut (ι := List Nat × Nat) (fun q => ⟨[(5, .d (ib x)), (6, .d (ib y)), (7, .own 0 0 N 1), (8, .d (.int .i64 i)), (9, .d (.int .i64 q.2))], [(0, some ⟨ibs q.1, true⟩)], 1⟩)
        (fun q => q.1.length = N ∧ Db 32768 q.1 ∧ q.2 < 32768 ∧ vb 32768 (q.1.take (i + y.length)) + 32768 ^ (i + y.length) * q.2 = vb 32768 (O.take (i + y.length)) + 32768 ^ i * p * vb 32768 y ∧ ∀ k, i + y.length ≤ k → q.1.getD k 0 = 0) ?_ ?_
      · refine awp_sx prog_ok hP hnt [] [] [] [5, 6, 7, 8, 9, 10] (by kernel_rfl) (G := fun K => K (St.mk [(5, V.d (ib x)), (6, V.d (ib y)), (7, V.own 0 0 N 1), (8, V.d (D.int IntKind.i64 (↑i : Int))), (9, V.d (D.int IntKind.i64 (0 : Int))), (10, V.d (D.int IntKind.i64 (0 : Int)))] [(0, some (Blk.mk (ibs O) true))] 7)) (fun K => by kernel_rfl) ?_
        refine awp_block ?_
        refine awp_loop (ι := Nat × List Nat × Nat) (fun q => ⟨[(5, .d (ib x)), (6, .d (ib y)), (7, .own 0 0 N 1), (8, .d (.int .i64 i)), (9, .d (.int .i64 q.2.2)), (10, .d (.int .i64 q.1))], [(0, some ⟨ibs q.2.1, true⟩)], 1⟩)
          (fun q => q.1 ≤ y.length ∧ q.2.1.length = N ∧ Db 32768 q.2.1 ∧ q.2.2 < 32768 ∧ vb 32768 (q.2.1.take (i + q.1)) + 32768 ^ (i + q.1) * q.2.2 = vb 32768 (O.take (i + q.1)) + 32768 ^ i * p * vb 32768 (y.take q.1) ∧ ∀ k, i + q.1 ≤ k → q.2.1.getD k 0 = O.getD k 0)
          (fun q => y.length - q.1) (0, O, 0) [(0, 0)] ⟨by simp, hOl, hOd, by simp, by simp [vb], fun k _ => rfl⟩ ?_ ?_
        · (constructor <;> simp [hl, envOk, memOk, conv, St.get, St.blk])
        intro ⟨j, o, c⟩ ⟨hj, hol, hod, hc, hv, hz⟩
        simp only at hj hol hod hc hv hz ⊢
        refine awp_seq_k fun K3 hK3 => ?_
        refine awp_sx prog_ok hP hnt [] [] [] [5, 6, 7, 8, 9, 10, 31] (by kernel_rfl) (G := fun K => K (St.mk [(5, V.d (ib x)), (6, V.d (ib y)), (7, V.own 0 0 N 1), (8, V.d (D.int IntKind.i64 (↑i : Int))), (9, V.d (D.int IntKind.i64 (↑c : Int))), (10, V.d (D.int IntKind.i64 (↑j : Int))), (31, V.d (D.bool (decide ((↑j : Int) < (↑y.length : Int)))))] [(0, some (Blk.mk (ibs o) true))] 5)) (fun K => by kernel_rfl) ?_
        refine awp_cond rfl (fun e => awp_skip (hK3 _ ?_)) (fun e => awp_exit ⟨(o, c), [(0, 0)], ?_, ?_⟩)
        · simp at e
          obtain ⟨q, hq⟩ := get_ex (l := y) (i := j) e
          have hq2 := db_get hy1 hq
          obtain ⟨w, hw⟩ := get_ex (l := o) (i := i + j) (by omega)
          have hw2 := db_get hod hw
          have hwO : O[i + j]? = some w := by
            have h1 := hz (i + j) (by omega)
            obtain ⟨w', hw'⟩ := get_ex (l := O) (i := i + j) (by omega)
            rw [List.getD_eq_getElem?_getD, List.getD_eq_getElem?_getD, hw, hw'] at h1
            simp at h1
            rw [hw', h1]
          obtain ⟨hT1, hT2⟩ := mul15 hp2 hq2 hw2 hc
          have hpq : p * q < 1073741824 := by omega
          obtain ⟨T, hT⟩ : ∃ T, T = w + p * q + c := ⟨_, rfl⟩
          have hstep := vb_mulstep (b := 32768) (by omega) hwO hq hT hv
          rw [← hT] at hT1 hT2
          refine awp_seq_k fun K4 hK4 => ?_
          refine awp_block ?_
          refine awp_sx prog_ok hP hnt [(37, .int .i64 (i + j : Nat)), (48, .int .i64 (p * q : Nat)), (49, .int .i64 (w + p * q : Nat)), (51, .int .i64 T)] [] [some [.int .i64 w], some [.int .i64 p], some [.int .i64 q]] [5, 6, 7, 8, 10, 11] (by kernel_rfl) (G := fun K => IntKind.i64.wrap ((↑i : Int) + (↑j : Int)) = (↑(i + j) : Int) ∧ ((0 : Int) ≤ (↑(i + j) : Int) ∧ (↑(i + j) : Int) < (↑N : Int)) ∧ (ibs o)[0 + (↑(i + j) : Int).toNat * 1]? = some (D.int IntKind.i64 (↑w : Int)) ∧ ((0 : Int) ≤ (↑i : Int) ∧ (↑i : Int) < (↑x.length : Int) ∧ ((↑i : Int).toNat + 1) * 1 ≤ (ibs x).length) ∧ (List.drop ((↑i : Int).toNat * 1) (ibs x))[0]? = some (D.int IntKind.i64 (↑p : Int)) ∧ ((0 : Int) ≤ (↑j : Int) ∧ (↑j : Int) < (↑y.length : Int) ∧ ((↑j : Int).toNat + 1) * 1 ≤ (ibs y).length) ∧ (List.drop ((↑j : Int).toNat * 1) (ibs y))[0]? = some (D.int IntKind.i64 (↑q : Int)) ∧ IntKind.i64.wrap ((↑p : Int) * (↑q : Int)) = (↑(p * q) : Int) ∧ IntKind.i64.wrap ((↑w : Int) + (↑(p * q) : Int)) = (↑(w + p * q) : Int) ∧ IntKind.i64.wrap ((↑(w + p * q) : Int) + (↑c : Int)) = (↑T : Int) ∧ K (St.mk [(5, V.d (ib x)), (6, V.d (ib y)), (7, V.own 0 0 N 1), (8, V.d (D.int IntKind.i64 (↑i : Int))), (10, V.d (D.int IntKind.i64 (↑j : Int))), (11, V.d (D.int IntKind.i64 (↑T : Int)))] [(0, some (Blk.mk (ibs o) true))] 24)) (fun K => by kernel_rfl) ?_
          refine ⟨by rw [w64] <;> omega, ⟨by omega, by omega⟩, by rw [Int.toNat_natCast, Nat.zero_add, Nat.mul_one]; exact ibs_some hw, ⟨by omega, by omega, by simp; omega⟩, drop0 (ibs_some hp), ⟨by omega, by omega, by simp; omega⟩, drop0 (ibs_some hq), by rw [← Int.natCast_mul]; exact i64nat (by omega), by rw [← Int.natCast_add]; exact i64nat (by omega), by rw [← Int.natCast_add, ← hT]; exact i64nat (by omega), ?_⟩
          have hsc := setCells_ib o (i + j) (T % 32768)
          refine awp_sx prog_ok hP hnt [(55, .int .i64 (i + j : Nat)), (57, .int .i64 (T % 32768 : Nat))] [] [] [5, 6, 7, 8, 10, 11] (by kernel_rfl) (G := fun K => IntKind.i64.wrap ((↑i : Int) + (↑j : Int)) = (↑(i + j) : Int) ∧ (32768 : Int) ≠ (0 : Int) ∧ (↑T : Int).tmod (32768 : Int) = (↑(T % 32768) : Int) ∧ ((0 : Int) ≤ (↑(i + j) : Int) ∧ (↑(i + j) : Int) < (↑N : Int)) ∧ 0 + (↑(i + j) : Int).toNat * 1 + [D.int IntKind.i64 (↑(T % 32768) : Int)].length ≤ (ibs o).length ∧ K (St.mk [(5, V.d (ib x)), (6, V.d (ib y)), (7, V.own 0 0 N 1), (8, V.d (D.int IntKind.i64 (↑i : Int))), (10, V.d (D.int IntKind.i64 (↑j : Int))), (11, V.d (D.int IntKind.i64 (↑T : Int)))] [(0, some (Blk.mk (setCells (ibs o) (0 + (↑(i + j) : Int).toNat * 1) [D.int IntKind.i64 (↑(T % 32768) : Int)]) true))] 32)) (fun K => by kernel_rfl) ?_
          refine ⟨by rw [w64] <;> omega, by decide, tmodN T 32768, ⟨by omega, by omega⟩, by rw [Int.toNat_natCast, ibs_len, hol]; show 0 + (i + j) * 1 + 1 ≤ N; omega, ?_⟩
          refine awp_x prog_ok hP hnt [(60, .int .i64 (T / 32768 : Nat))] [] [] [5, 6, 7, 8, 9, 10] (by kernel_rfl) (G := fun K => (32768 : Int) ≠ (0 : Int) ∧ IntKind.i64.wrap ((↑T : Int).tdiv (32768 : Int)) = (↑(T / 32768) : Int) ∧ K (St.mk [(5, V.d (ib x)), (6, V.d (ib y)), (7, V.own 0 0 N 1), (8, V.d (D.int IntKind.i64 (↑i : Int))), (10, V.d (D.int IntKind.i64 (↑j : Int))), (9, V.d (D.int IntKind.i64 (↑(T / 32768) : Int)))] [(0, some (Blk.mk (setCells (ibs o) (0 + (↑(i + j) : Int).toNat * 1) [D.int IntKind.i64 (↑(T % 32768) : Int)]) true))] 35)) (fun K => by kernel_rfl) ?_
          refine ⟨by decide, tdivN T 32768 (by omega), hK4 _ ?_⟩
          refine awp_x prog_ok hP hnt [(33, .int .i64 (j + 1 : Nat))] [] [] [5, 6, 7, 8, 9, 10] (by kernel_rfl) (G := fun K => IntKind.i64.wrap ((↑j : Int) + (1 : Int)) = (↑(j + 1) : Int) ∧ K (St.mk [(5, V.d (ib x)), (6, V.d (ib y)), (7, V.own 0 0 N 1), (8, V.d (D.int IntKind.i64 (↑i : Int))), (10, V.d (D.int IntKind.i64 (↑(j + 1) : Int))), (9, V.d (D.int IntKind.i64 (↑(T / 32768) : Int)))] [(0, some (Blk.mk (setCells (ibs o) (0 + (↑(i + j) : Int).toNat * 1) [D.int IntKind.i64 (↑(T % 32768) : Int)]) true))] 38)) (fun K => by kernel_rfl) ?_
          refine ⟨by rw [w64] <;> omega, (j + 1, o.set (i + j) (T % 32768), T / 32768), [(0, 0)], ⟨⟨by omega, by simp [hol], db_set hod (by omega), hT2, hstep, fun k hk => ?_⟩, by simp only; omega⟩, ?_⟩
          · rw [← hz k (by omega), List.getD_eq_getElem?_getD, List.getElem?_set, if_neg (by omega), List.getD_eq_getElem?_getD]
          · rw [Int.toNat_natCast, Nat.mul_one, Nat.zero_add, hsc]
            (constructor <;> simp [hl, envOk, memOk, conv, St.get, St.blk])
        · simp at e
          have : j = y.length := by omega
          subst this
          rw [List.take_length] at hv
          exact ⟨hol, hod, hc, hv, fun k hk => by rw [hz k hk, hOz k hk]⟩
        · (constructor <;> simp [hl, envOk, memOk, conv, St.get, St.blk])
      intro ⟨o, c⟩ ⟨hol, hod, hc, hv, hz⟩
      simp only at hol hod hc hv hz ⊢
      obtain ⟨w, hw⟩ := get_ex (l := o) (i := i + y.length) (by omega)
      have hw0 : w = 0 := by
        have := hz (i + y.length) (by omega)
        rw [List.getD_eq_getElem?_getD, hw] at this
        simpa using this
      subst hw0
      refine awp_x prog_ok hP hnt [(65, .int .i64 (i + y.length : Nat)), (69, .int .i64 c)] [] [some [.int .i64 (0 : Nat)]] [5, 6, 7, 8] (by kernel_rfl) (G := fun K => IntKind.i64.wrap ((↑i : Int) + (↑y.length : Int)) = (↑(i + y.length) : Int) ∧ ((0 : Int) ≤ (↑(i + y.length) : Int) ∧ (↑(i + y.length) : Int) < (↑N : Int)) ∧ (ibs o)[0 + (↑(i + y.length) : Int).toNat * 1]? = some (D.int IntKind.i64 (↑0 : Int)) ∧ IntKind.i64.wrap ((↑0 : Int) + (↑c : Int)) = (↑c : Int) ∧ ((0 : Int) ≤ (↑(i + y.length) : Int) ∧ (↑(i + y.length) : Int) < (↑N : Int)) ∧ 0 + (↑(i + y.length) : Int).toNat * 1 + [D.int IntKind.i64 (↑c : Int)].length ≤ (ibs o).length ∧ K (St.mk [(5, V.d (ib x)), (6, V.d (ib y)), (7, V.own 0 0 N 1), (8, V.d (D.int IntKind.i64 (↑i : Int)))] [(0, some (Blk.mk (setCells (ibs o) (0 + (↑(i + y.length) : Int).toNat * 1) [D.int IntKind.i64 (↑c : Int)]) true))] 12)) (fun K => by kernel_rfl) ?_
      have hsc := setCells_ib o (i + y.length) c
      refine ⟨by rw [w64] <;> omega, ⟨by omega, by omega⟩, by rw [Int.toNat_natCast, Nat.zero_add, Nat.mul_one]; exact ibs_some hw, by rw [w64] <;> omega, ⟨by omega, by omega⟩, by rw [Int.toNat_natCast, ibs_len, hol]; show 0 + (i + y.length) * 1 + 1 ≤ N; omega, hK2 _ ?_⟩
      refine awp_x prog_ok hP hnt [(27, .int .i64 (i + 1 : Nat))] [] [] [5, 6, 7, 8] (by kernel_rfl) (G := fun K => IntKind.i64.wrap ((↑i : Int) + (1 : Int)) = (↑(i + 1) : Int) ∧ K (St.mk [(5, V.d (ib x)), (6, V.d (ib y)), (7, V.own 0 0 N 1), (8, V.d (D.int IntKind.i64 (↑(i + 1) : Int)))] [(0, some (Blk.mk (setCells (ibs o) (0 + (↑(i + y.length) : Int).toNat * 1) [D.int IntKind.i64 (↑c : Int)]) true))] 15)) (fun K => by kernel_rfl) ?_
      have hput := vb_put (b := 32768) (l := o) (i := i + y.length) c (by omega)
      rw [List.getD_eq_getElem?_getD, hw] at hput
      have hvo : vb 32768 o = vb 32768 (o.take (i + y.length)) := by
        rw [vb_splitb 32768 o (i + y.length)]
        have h1 : o.getD (i + y.length) 0 = 0 := hz _ (by omega)
        have h2 : vb 32768 (o.drop (i + y.length + 1)) = 0 := by
          have : o.drop (i + y.length + 1) = List.replicate (o.length - (i + y.length + 1)) 0 := by
            apply List.ext_getElem?
            intro k
            rw [List.getElem?_drop, List.getElem?_replicate]
            by_cases hk : i + y.length + 1 + k < o.length
            · obtain ⟨z, hz'⟩ := get_ex (l := o) hk
              have := hz (i + y.length + 1 + k) (by omega)
              rw [List.getD_eq_getElem?_getD, hz'] at this
              simp at this
              rw [hz', if_pos (by omega), this]
            · rw [List.getElem?_eq_none (by omega), if_neg (by omega)]
          rw [this, vb_zeros]
        rw [h1, h2]; simp
      have hvO : vb 32768 O = vb 32768 (O.take (i + y.length)) := by
        have := vb_append (b := 32768) (O.take (i + y.length)) (O.drop (i + y.length))
        rw [List.take_append_drop] at this
        have h2 : vb 32768 (O.drop (i + y.length)) = 0 := by
          have : O.drop (i + y.length) = List.replicate (O.length - (i + y.length)) 0 := by
            apply List.ext_getElem?
            intro k
            rw [List.getElem?_drop, List.getElem?_replicate]
            by_cases hk : i + y.length + k < O.length
            · obtain ⟨z, hz'⟩ := get_ex (l := O) hk
              have := hOz (i + y.length + k) (by omega)
              rw [List.getD_eq_getElem?_getD, hz'] at this
              simp at this
              rw [hz', if_pos (by omega), this]
            · rw [List.getElem?_eq_none (by omega), if_neg (by omega)]
          rw [this, vb_zeros]
        rw [h2] at this
        omega
      refine ⟨by rw [w64] <;> omega, (i + 1, o.set (i + y.length) c), [(0, 0)], ⟨⟨by omega, by simp [hol], db_set hod hc, ?_, fun k hk => ?_⟩, by simp only; omega⟩, ?_⟩
      · simp only at hput ⊢
        rw [vb_take_succ hp, Nat.add_mul, ← hOv, hvO, ← hv, ← hvo]
        simp at hput
        omega
      · show (o.set (i + y.length) c).getD k 0 = 0
        rw [List.getD_eq_getElem?_getD, List.getElem?_set, if_neg (by omega), ← List.getD_eq_getElem?_getD]
        exact hz k (by omega)
      · rw [Int.toNat_natCast, Nat.mul_one, Nat.zero_add, hsc]
        (constructor <;> simp [hl, envOk, memOk, conv, St.get, St.blk])
    · simp at e
      have : i = x.length := by omega
      subst this
      rw [List.take_length, hx2, hy2] at hOv
      exact ⟨hOl, hOd, hOv⟩
    · (constructor <;> simp [hl, envOk, memOk, conv, St.get, St.blk])
  intro o ⟨hol, hod, hov⟩
  have hb := bits_fn o hod (by omega)
  rw [hov] at hb
  refine awp_sx prog_ok hP hnt [] [.val (.d (ib (db 2 (vb 2 l * vb 2 m))))] [] [4] (by kernel_rfl) (G := fun K => Fn Try.prog 242 [V.d (D.lst N (List.take (N * 1) (List.drop 0 (ibs o))))] [] (V.d (ib (db 2 (vb 2 l * vb 2 m)))) [] ∧ K (St.mk [(4, V.d (ib (db 2 (vb 2 l * vb 2 m))))] [(0, some (Blk.mk (ibs o) false))] 4)) (fun K => by kernel_rfl) ?_
  refine ⟨?_, awp_ret ⟨.inl rfl, retD rfl⟩⟩
  have := own_fm i1_len hol
  rw [this]
  exact hb
end Go.Abs

set_option linter.unusedVariables false
set_option linter.unusedSimpArgs false
namespace Go.Abs
open Go Go.Proofs
set_option maxRecDepth 100000

theorem zc_zero : zc 0 = [.int .i64 0, .lst 0 []] := by simp [zc, ib, db_zero, fm]
theorem zc_sgn {s : Bool} {n : Nat} (h : n ≠ 0) : zc (sgn s n) = [.int .i64 (if s then -1 else 1), ib (db 2 n)] := by
  unfold zc
  rw [sgn_abs]
  congr 2
  unfold sgn
  cases s
  · simp; omega
  · simp; omega

theorem zmake_fn (s : Bool) (l : List Nat) (h : Db 2 l) (hn : l.length ≤ 2 ^ 40) : Fn Try.prog 59 [.d (.bool s), .d (ib l)] [] (.agg (zc (sgn s (vb 2 l)))) [] := by
  refine fn0 (nt := 16) (res := [.cell 4 31]) Try.func59 rfl (by decide) rfl rfl rfl rfl ?_
  intro C hP hnt hl
  obtain ⟨N, hN⟩ : ∃ N, N = vb 2 l := ⟨_, rfl⟩
  have ht := btrim_fn l h hn
  rw [← hN] at ht ⊢
  have hlen : (db 2 N).length ≤ 2 ^ 40 := by
    have h1 := vb_lt (b := 2) (by omega) h
    rw [← hN] at h1
    exact Nat.le_trans (db_len (by omega) h1) hn
  refine awp_sx prog_ok hP hnt [] [] [] [0, 1, 4] (by kernel_rfl) (G := fun K => K (St.mk [(0, V.d (D.bool s)), (1, V.d (ib l)), (4, V.ptr 0 0)] [(0, some (Blk.mk [D.int IntKind.i64 (0 : Int), D.lst 0 []] true))] 1)) (fun K => by kernel_rfl) ?_
  refine awp_sx prog_ok hP hnt [] [.val (.d (ib (db 2 N)))] [] [0, 1, 4] (by kernel_rfl) (G := fun K => Fn Try.prog 166 [V.d (ib l)] [] (V.d (ib (db 2 N))) [] ∧ K (St.mk [(0, V.d (D.bool s)), (1, V.d (ib (db 2 N))), (4, V.ptr 0 0)] [(0, some (Blk.mk [D.int IntKind.i64 (0 : Int), D.lst 0 []] true))] 4)) (fun K => by kernel_rfl) ?_
  refine ⟨ht, ?_⟩
  refine awp_seq_k fun K hK => ?_
  refine awp_sx prog_ok hP hnt [] [] [] [0, 1, 4, 9] (by kernel_rfl) (G := fun K => K (St.mk [(0, V.d (D.bool s)), (1, V.d (ib (db 2 N))), (4, V.ptr 0 0), (9, V.d (D.bool ((↑(db 2 N).length : Int) == (0 : Int))))] [(0, some (Blk.mk [D.int IntKind.i64 (0 : Int), D.lst 0 []] true))] 7)) (fun K => by kernel_rfl) ?_
  refine awp_cond rfl (fun e => ?_) (fun e => awp_skip (hK _ ?_))
  · simp at e
    have h0 : N = 0 := (db_nil (b := 2) (by omega)).1 e
    subst h0
    refine awp_sx prog_ok hP hnt [] [] [] [4] (by kernel_rfl) (G := fun K => 2 ≤ [D.int IntKind.i64 (0 : Int), D.lst 0 []].length ∧ K (St.mk [(4, V.ptr 0 0)] [(0, some (Blk.mk [D.int IntKind.i64 (0 : Int), D.lst 0 []] true))] 9)) (fun K => by kernel_rfl) ?_
    refine ⟨by simp, awp_ret ⟨.inl rfl, ?_⟩⟩
    rw [show sgn s 0 = 0 by unfold sgn; split <;> rfl, zc_zero]
    exact retC (l := true) rfl rfl rfl rfl
  · simp at e
    have h0 : N ≠ 0 := fun h0 => e (by rw [h0, db_zero])
    rw [zc_sgn h0]
    refine awp_seq_k fun K2 hK2 => ?_
    refine awp_sx prog_ok hP hnt [] [] [] [1, 4, 11] (by kernel_rfl) (G := fun K => K (St.mk [(1, V.d (ib (db 2 N))), (4, V.ptr 0 0), (11, V.d (D.bool s))] [(0, some (Blk.mk [D.int IntKind.i64 (0 : Int), D.lst 0 []] true))] 8)) (fun K => by kernel_rfl) ?_
    refine awp_cond rfl (fun e => ?_) (fun e => awp_skip (hK2 _ ?_))
    · subst e
      refine awp_sx prog_ok hP hnt [] [] [] [4] (by kernel_rfl) (G := fun K => 0 + (setCells (setCells (TI.mk (Kind.struct [(0, 1), (1, 1)]) 2 32 [D.int IntKind.i64 (0 : Int), D.lst 0 []]).zero 0 [D.int IntKind.i64 (-1 : Int)]) 1 [ib (db 2 N)]).length ≤ [D.int IntKind.i64 (0 : Int), D.lst 0 []].length ∧ K (St.mk [(4, V.ptr 0 0)] [(0, some (Blk.mk [D.int IntKind.i64 (-1 : Int), ib (db 2 N)] true))] 11)) (fun K => by kernel_rfl) ?_
      exact ⟨by simp, awp_ret ⟨.inl rfl, retC (l := true) rfl rfl rfl rfl⟩⟩
    · subst e
      refine awp_sx prog_ok hP hnt [] [] [] [4] (by kernel_rfl) (G := fun K => 0 + (setCells (setCells (TI.mk (Kind.struct [(0, 1), (1, 1)]) 2 32 [D.int IntKind.i64 (0 : Int), D.lst 0 []]).zero 0 [D.int IntKind.i64 (1 : Int)]) 1 [ib (db 2 N)]).length ≤ [D.int IntKind.i64 (0 : Int), D.lst 0 []].length ∧ K (St.mk [(4, V.ptr 0 0)] [(0, some (Blk.mk [D.int IntKind.i64 (1 : Int), ib (db 2 N)] true))] 11)) (fun K => by kernel_rfl) ?_
      exact ⟨by simp, awp_ret ⟨.inl rfl, retC (l := true) rfl rfl rfl rfl⟩⟩

theorem dblen {K n : Nat} (h : n < 2 ^ K) : (db 2 n).length ≤ K := db_len (by omega) h
theorem db2 (n : Nat) : Db 2 (db 2 n) := db_lt (by omega) n
theorem vbdb (n : Nat) : vb 2 (db 2 n) = n := vb_db (by omega) n

theorem zof_fn (s : Bool) (l : List Nat) (h : Dg l) (hn : l.length ≤ 2 ^ 34) : Fn Try.prog 159 [.d (.bool s), .d (du l)] [] (.agg (zc (ival s l))) [] := by
  refine fn0 (nt := 9) (res := [.cell 4 31]) Try.func159 rfl (by decide) rfl rfl rfl rfl ?_
  intro C hP hnt hl
  have h1 := bof_fn l h hn
  have hlt : val l < 2 ^ (32 * l.length) := by
    have := val_lt h
    rwa [show (4294967296 : Nat) = 2 ^ 32 by rfl, ← Nat.pow_mul] at this
  have h2 := zmake_fn s (db 2 (val l)) (db2 _) (by have := dblen hlt; omega)
  rw [vbdb] at h2
  refine awp_sx prog_ok hP hnt [] [] [] [0, 1, 4] (by kernel_rfl) (G := fun K => K (St.mk [(0, V.d (D.bool s)), (1, V.d (du l)), (4, V.ptr 0 0)] [(0, some (Blk.mk [D.int IntKind.i64 (0 : Int), D.lst 0 []] true))] 1)) (fun K => by kernel_rfl) ?_
  refine awp_sx prog_ok hP hnt [] [.val (.d (ib (db 2 (val l)))), .val (.agg (zc (ival s l)))] [] [4] (by kernel_rfl) (G := fun K => Fn Try.prog 209 [V.d (du l)] [] (V.d (ib (db 2 (val l)))) [] ∧ Fn Try.prog 59 [V.d (D.bool s), V.d (ib (db 2 (val l)))] [] (V.agg [D.int IntKind.i64 (ival s l).sign, ib (db 2 (ival s l).natAbs)]) [] ∧ 0 + (zc (ival s l)).length ≤ [D.int IntKind.i64 (0 : Int), D.lst 0 []].length ∧ K (St.mk [(4, V.ptr 0 0)] [(0, some (Blk.mk [D.int IntKind.i64 (ival s l).sign, ib (db 2 (ival s l).natAbs)] true))] 6)) (fun K => by kernel_rfl) ?_
  exact ⟨h1, h2, by simp [zc_len], awp_ret ⟨.inl rfl, retC (l := true) rfl rfl rfl rfl⟩⟩
theorem z_fn (s : Bool) (l : List Nat) (h : Dg l) (hn : l.length ≤ 2 ^ 34) : Fn Try.prog 52 [.agg (ic s l)] [] (.agg (zc (ival s l))) [] := by
  refine fn0 (nt := 8) (res := [.cell 2 31]) Try.func52 rfl (by decide) rfl rfl rfl rfl ?_
  intro C hP hnt hl
  have h1 := zof_fn s l h hn
  refine awp_sx prog_ok hP hnt [] [] [] [1, 2] (by kernel_rfl) (G := fun K => K (St.mk [(1, V.ptr 0 0), (2, V.ptr 1 0)] [(0, some (Blk.mk [D.bool s, du l] true)), (1, some (Blk.mk [D.int IntKind.i64 (0 : Int), D.lst 0 []] true))] 2)) (fun K => by kernel_rfl) ?_
  refine awp_sx prog_ok hP hnt [] [.val (.agg (zc (ival s l)))] [] [2] (by kernel_rfl) (G := fun K => Fn Try.prog 159 [V.d (D.bool s), V.d (du l)] [] (V.agg [D.int IntKind.i64 (ival s l).sign, ib (db 2 (ival s l).natAbs)]) [] ∧ 0 + (zc (ival s l)).length ≤ [D.int IntKind.i64 (0 : Int), D.lst 0 []].length ∧ K (St.mk [(2, V.ptr 1 0)] [(0, some (Blk.mk [D.bool s, du l] true)), (1, some (Blk.mk [D.int IntKind.i64 (ival s l).sign, ib (db 2 (ival s l).natAbs)] true))] 8)) (fun K => by kernel_rfl) ?_
  exact ⟨h1, by simp [zc_len], awp_ret ⟨.inl rfl, retC (l := true) rfl rfl rfl rfl⟩⟩
theorem zmul_fn (x y : Int) {K : Nat} (hK : K ≤ 2 ^ 36) (hx : x.natAbs < 2 ^ K) (hy : y.natAbs < 2 ^ K) : Fn Try.prog 162 [.agg (zc x), .agg (zc y)] [] (.agg (zc (x * y))) [] := by
  refine fn0 (nt := 17) (res := [.cell 4 31]) Try.func162 rfl (by decide) rfl rfl rfl rfl ?_
  intro C hP hnt hl
  have h1 := bmul_fn (db 2 x.natAbs) (db 2 y.natAbs) (db2 _) (db2 _) (Nat.le_trans (dblen hx) hK) (Nat.le_trans (dblen hy) hK)
  rw [vbdb, vbdb] at h1
  have hlt : x.natAbs * y.natAbs < 2 ^ (K + K) := by
    rw [Nat.pow_add]
    exact Nat.lt_of_le_of_lt (Nat.mul_le_mul_left _ (Nat.le_of_lt hy)) (Nat.mul_lt_mul_of_pos_right hx (Nat.pow_pos (by omega)))
  have h2 := zmake_fn (decide (x.sign * y.sign < 0)) (db 2 (x.natAbs * y.natAbs)) (db2 _) (by have := dblen hlt; omega)
  rw [vbdb] at h2
  have hs : -1 ≤ x.sign ∧ x.sign ≤ 1 ∧ -1 ≤ y.sign ∧ y.sign ≤ 1 := by
    rcases Int.lt_trichotomy x 0 with h | h | h <;> rcases Int.lt_trichotomy y 0 with h' | h' | h' <;> simp [Int.sign_eq_one_of_pos, Int.sign_eq_neg_one_of_neg, h, h']
  have e : sgn (decide (x.sign * y.sign < 0)) (x.natAbs * y.natAbs) = x * y := by
    rw [← Int.natAbs_mul, ← Int.sign_mul]
    generalize x * y = z
    unfold sgn
    rcases Int.lt_trichotomy z 0 with h | h | h
    · simp [Int.sign_eq_neg_one_of_neg h]; omega
    · subst h; rfl
    · simp [Int.sign_eq_one_of_pos h]; omega
  rw [e] at h2
  have hw : IntKind.i64.wrap (x.sign * y.sign) = x.sign * y.sign := by
    rw [← Int.sign_mul]
    generalize x * y = z
    rcases Int.lt_trichotomy z 0 with h | h | h
    · rw [Int.sign_eq_neg_one_of_neg h]; rfl
    · subst h; rfl
    · rw [Int.sign_eq_one_of_pos h]; rfl
  refine awp_sx prog_ok hP hnt [] [] [] [2, 3, 4] (by kernel_rfl) (G := fun K => K (St.mk [(2, V.ptr 0 0), (3, V.ptr 1 0), (4, V.ptr 2 0)] [(0, some (Blk.mk [D.int IntKind.i64 x.sign, ib (db 2 x.natAbs)] true)), (1, some (Blk.mk [D.int IntKind.i64 y.sign, ib (db 2 y.natAbs)] true)), (2, some (Blk.mk [D.int IntKind.i64 (0 : Int), D.lst 0 []] true))] 3)) (fun K => by kernel_rfl) ?_
  refine awp_sx prog_ok hP hnt [(9, .int .i64 (x.sign * y.sign))] [.val (.d (ib (db 2 (x.natAbs * y.natAbs)))), .val (.agg (zc (x * y)))] [] [4] (by kernel_rfl) (G := fun K => IntKind.i64.wrap (x.sign * y.sign) = x.sign * y.sign ∧ Fn Try.prog 210 [V.d (ib (db 2 x.natAbs)), V.d (ib (db 2 y.natAbs))] [] (V.d (ib (db 2 (x.natAbs * y.natAbs)))) [] ∧ Fn Try.prog 59 [V.d (D.bool (decide (x.sign * y.sign < (0 : Int)))), V.d (ib (db 2 (x.natAbs * y.natAbs)))] [] (V.agg [D.int IntKind.i64 (x * y).sign, ib (db 2 (x * y).natAbs)]) [] ∧ 0 + (zc (x * y)).length ≤ [D.int IntKind.i64 (0 : Int), D.lst 0 []].length ∧ K (St.mk [(4, V.ptr 2 0)] [(0, some (Blk.mk [D.int IntKind.i64 x.sign, ib (db 2 x.natAbs)] true)), (1, some (Blk.mk [D.int IntKind.i64 y.sign, ib (db 2 y.natAbs)] true)), (2, some (Blk.mk [D.int IntKind.i64 (x * y).sign, ib (db 2 (x * y).natAbs)] true))] 16)) (fun K => by kernel_rfl) ?_
  exact ⟨hw, h1, h2, by simp [zc_len], awp_ret ⟨.inl rfl, retC (l := true) rfl rfl rfl rfl⟩⟩
theorem sgn3 (x : Int) : (x < 0 ∧ x.sign = -1) ∨ (x = 0 ∧ x.sign = 0) ∨ (0 < x ∧ x.sign = 1) := by
  rcases Int.lt_trichotomy x 0 with h | h | h
  · exact .inl ⟨h, Int.sign_eq_neg_one_of_neg h⟩
  · exact .inr (.inl ⟨h, by rw [h]; rfl⟩)
  · exact .inr (.inr ⟨h, Int.sign_eq_one_of_pos h⟩)
theorem zadd_fn (x y : Int) {K : Nat} (hK : K ≤ 2 ^ 36) (hx : x.natAbs < 2 ^ K) (hy : y.natAbs < 2 ^ K) : Fn Try.prog 169 [.agg (zc x), .agg (zc y)] [] (.agg (zc (x + y))) [] := by
  refine fn0 (nt := 47) (res := [.cell 4 31]) Try.func169 rfl (by decide) rfl rfl rfl rfl ?_
  intro C hP hnt hl
  have lx := Nat.le_trans (dblen hx) hK
  have ly := Nat.le_trans (dblen hy) hK
  have hx3 := sgn3 x
  have hy3 := sgn3 y
  have hw : IntKind.i64.wrap (x.sign * y.sign) = x.sign * y.sign := by
    rcases hx3 with ⟨a1, a2⟩ | ⟨a1, a2⟩ | ⟨a1, a2⟩ <;> rcases hy3 with ⟨b1, b2⟩ | ⟨b1, b2⟩ | ⟨b1, b2⟩ <;> rw [a2, b2] <;> rfl
  have hw2 : IntKind.i64.wrap (x.sign + y.sign) = x.sign + y.sign := by
    rcases hx3 with ⟨a1, a2⟩ | ⟨a1, a2⟩ | ⟨a1, a2⟩ <;> rcases hy3 with ⟨b1, b2⟩ | ⟨b1, b2⟩ | ⟨b1, b2⟩ <;> rw [a2, b2] <;> rfl
  have hle : ∀ n : Nat, n ≤ x.natAbs + y.natAbs → (db 2 n).length ≤ 2 ^ 40 := fun n hn => by
    have : n < 2 ^ (K + 1) := by rw [Nat.pow_succ]; omega
    have := dblen this
    omega
  refine awp_sx prog_ok hP hnt [] [] [] [2, 3, 4] (by kernel_rfl) (G := fun K => K (St.mk [(2, V.ptr 0 0), (3, V.ptr 1 0), (4, V.ptr 2 0)] [(0, some (Blk.mk [D.int IntKind.i64 x.sign, ib (db 2 x.natAbs)] true)), (1, some (Blk.mk [D.int IntKind.i64 y.sign, ib (db 2 y.natAbs)] true)), (2, some (Blk.mk [D.int IntKind.i64 (0 : Int), D.lst 0 []] true))] 3)) (fun K => by kernel_rfl) ?_
  refine awp_seq_k fun K hK => ?_
  refine awp_sx prog_ok hP hnt [(9, .int .i64 (x.sign * y.sign))] [] [] [2, 3, 4, 10] (by kernel_rfl) (G := fun K => IntKind.i64.wrap (x.sign * y.sign) = x.sign * y.sign ∧ K (St.mk [(2, V.ptr 0 0), (3, V.ptr 1 0), (4, V.ptr 2 0), (10, V.d (D.bool (decide (x.sign * y.sign ≥ (0 : Int)))))] [(0, some (Blk.mk [D.int IntKind.i64 x.sign, ib (db 2 x.natAbs)] true)), (1, some (Blk.mk [D.int IntKind.i64 y.sign, ib (db 2 y.natAbs)] true)), (2, some (Blk.mk [D.int IntKind.i64 (0 : Int), D.lst 0 []] true))] 9)) (fun K => by kernel_rfl) ?_
  refine ⟨hw, awp_cond rfl (fun e => ?_) (fun e => awp_skip (hK _ ?_))⟩
  · simp at e
    have h1 := badd_fn (db 2 x.natAbs) (db 2 y.natAbs) (db2 _) (db2 _) (by omega) (by omega)
    rw [vbdb, vbdb] at h1
    have h2 := zmake_fn (decide (x.sign + y.sign < 0)) (db 2 (x.natAbs + y.natAbs)) (db2 _) (hle _ (Nat.le_refl _))
    rw [vbdb] at h2
    have e2 : sgn (decide (x.sign + y.sign < 0)) (x.natAbs + y.natAbs) = x + y := by
      unfold sgn
      rcases hx3 with ⟨a1, a2⟩ | ⟨a1, a2⟩ | ⟨a1, a2⟩ <;> rcases hy3 with ⟨b1, b2⟩ | ⟨b1, b2⟩ | ⟨b1, b2⟩ <;> rw [a2, b2] at e ⊢ <;> first | (exfalso; omega) | (simp; omega)
    rw [e2] at h2
    refine awp_sx prog_ok hP hnt [(15, .int .i64 (x.sign + y.sign))] [.val (.d (ib (db 2 (x.natAbs + y.natAbs)))), .val (.agg (zc (x + y)))] [] [4] (by kernel_rfl) (G := fun K => IntKind.i64.wrap (x.sign + y.sign) = x.sign + y.sign ∧ Fn Try.prog 217 [V.d (ib (db 2 x.natAbs)), V.d (ib (db 2 y.natAbs))] [] (V.d (ib (db 2 (x.natAbs + y.natAbs)))) [] ∧ Fn Try.prog 59 [V.d (D.bool (decide (x.sign + y.sign < (0 : Int)))), V.d (ib (db 2 (x.natAbs + y.natAbs)))] [] (V.agg [D.int IntKind.i64 (x + y).sign, ib (db 2 (x + y).natAbs)]) [] ∧ 0 + (zc (x + y)).length ≤ [D.int IntKind.i64 (0 : Int), D.lst 0 []].length ∧ K (St.mk [(4, V.ptr 2 0)] [(0, some (Blk.mk [D.int IntKind.i64 x.sign, ib (db 2 x.natAbs)] true)), (1, some (Blk.mk [D.int IntKind.i64 y.sign, ib (db 2 y.natAbs)] true)), (2, some (Blk.mk [D.int IntKind.i64 (x + y).sign, ib (db 2 (x + y).natAbs)] true))] 22)) (fun K => by kernel_rfl) ?_
    exact ⟨hw2, h1, h2, by simp [zc_len], awp_ret ⟨.inl rfl, retC (l := true) rfl rfl rfl rfl⟩⟩
  · simp at e
    have h1 := bcmp_fn (db 2 x.natAbs) (db 2 y.natAbs) (db2 _) (db2 _) (by omega) (by omega)
    rw [vbdb, vbdb] at h1
    refine awp_seq_k fun K2 hK2 => ?_
    refine awp_sx prog_ok hP hnt [] [.val (.d (.int .i64 (cmpI x.natAbs y.natAbs)))] [] [2, 3, 4, 28] (by kernel_rfl) (G := fun K => Fn Try.prog 167 [V.d (ib (db 2 x.natAbs)), V.d (ib (db 2 y.natAbs))] [] (V.d (D.int IntKind.i64 (cmpI x.natAbs y.natAbs))) [] ∧ K (St.mk [(2, V.ptr 0 0), (3, V.ptr 1 0), (4, V.ptr 2 0), (28, V.d (D.bool (decide (cmpI x.natAbs y.natAbs ≥ (0 : Int)))))] [(0, some (Blk.mk [D.int IntKind.i64 x.sign, ib (db 2 x.natAbs)] true)), (1, some (Blk.mk [D.int IntKind.i64 y.sign, ib (db 2 y.natAbs)] true)), (2, some (Blk.mk [D.int IntKind.i64 (0 : Int), D.lst 0 []] true))] 15)) (fun K => by kernel_rfl) ?_
    refine ⟨h1, awp_cond rfl (fun e3 => ?_) (fun e3 => awp_skip (hK2 _ ?_))⟩
    · have hge : y.natAbs ≤ x.natAbs := by
        simp at e3
        unfold cmpI at e3
        split at e3
        · omega
        · split at e3 <;> omega
      have h3 := bsub_fn (db 2 x.natAbs) (db 2 y.natAbs) (db2 _) (db2 _) (by omega) (by rw [vbdb, vbdb]; exact hge)
      rw [vbdb, vbdb] at h3
      have h2 := zmake_fn (decide (x.sign < 0)) (db 2 (x.natAbs - y.natAbs)) (db2 _) (hle _ (by omega))
      rw [vbdb] at h2
      have e2 : sgn (decide (x.sign < 0)) (x.natAbs - y.natAbs) = x + y := by
        unfold sgn
        rcases hx3 with ⟨a1, a2⟩ | ⟨a1, a2⟩ | ⟨a1, a2⟩ <;> rcases hy3 with ⟨b1, b2⟩ | ⟨b1, b2⟩ | ⟨b1, b2⟩ <;> rw [a2, b2] at e <;> rw [a2] <;> first | (exfalso; omega) | (simp; omega)
      rw [e2] at h2
      refine awp_sx prog_ok hP hnt [] [.val (.d (ib (db 2 (x.natAbs - y.natAbs)))), .val (.agg (zc (x + y)))] [] [4] (by kernel_rfl) (G := fun K => Fn Try.prog 218 [V.d (ib (db 2 x.natAbs)), V.d (ib (db 2 y.natAbs))] [] (V.d (ib (db 2 (x.natAbs - y.natAbs)))) [] ∧ Fn Try.prog 59 [V.d (D.bool (decide (x.sign < (0 : Int)))), V.d (ib (db 2 (x.natAbs - y.natAbs)))] [] (V.agg [D.int IntKind.i64 (x + y).sign, ib (db 2 (x + y).natAbs)]) [] ∧ 0 + (zc (x + y)).length ≤ [D.int IntKind.i64 (0 : Int), D.lst 0 []].length ∧ K (St.mk [(4, V.ptr 2 0)] [(0, some (Blk.mk [D.int IntKind.i64 x.sign, ib (db 2 x.natAbs)] true)), (1, some (Blk.mk [D.int IntKind.i64 y.sign, ib (db 2 y.natAbs)] true)), (2, some (Blk.mk [D.int IntKind.i64 (x + y).sign, ib (db 2 (x + y).natAbs)] true))] 25)) (fun K => by kernel_rfl) ?_
      exact ⟨h3, h2, by simp [zc_len], awp_ret ⟨.inl rfl, retC (l := true) rfl rfl rfl rfl⟩⟩
    · have hge : x.natAbs ≤ y.natAbs := by
        simp at e3
        unfold cmpI at e3
        split at e3
        · omega
        · split at e3 <;> omega
      have h3 := bsub_fn (db 2 y.natAbs) (db 2 x.natAbs) (db2 _) (db2 _) (by omega) (by rw [vbdb, vbdb]; exact hge)
      rw [vbdb, vbdb] at h3
      have h2 := zmake_fn (decide (y.sign < 0)) (db 2 (y.natAbs - x.natAbs)) (db2 _) (hle _ (by omega))
      rw [vbdb] at h2
      have e2 : sgn (decide (y.sign < 0)) (y.natAbs - x.natAbs) = x + y := by
        unfold sgn
        rcases hx3 with ⟨a1, a2⟩ | ⟨a1, a2⟩ | ⟨a1, a2⟩ <;> rcases hy3 with ⟨b1, b2⟩ | ⟨b1, b2⟩ | ⟨b1, b2⟩ <;> rw [a2, b2] at e <;> rw [b2] <;> first | (exfalso; omega) | (simp; omega)
      rw [e2] at h2
      refine awp_sx prog_ok hP hnt [] [.val (.d (ib (db 2 (y.natAbs - x.natAbs)))), .val (.agg (zc (x + y)))] [] [4] (by kernel_rfl) (G := fun K => Fn Try.prog 218 [V.d (ib (db 2 y.natAbs)), V.d (ib (db 2 x.natAbs))] [] (V.d (ib (db 2 (y.natAbs - x.natAbs)))) [] ∧ Fn Try.prog 59 [V.d (D.bool (decide (y.sign < (0 : Int)))), V.d (ib (db 2 (y.natAbs - x.natAbs)))] [] (V.agg [D.int IntKind.i64 (x + y).sign, ib (db 2 (x + y).natAbs)]) [] ∧ 0 + (zc (x + y)).length ≤ [D.int IntKind.i64 (0 : Int), D.lst 0 []].length ∧ K (St.mk [(4, V.ptr 2 0)] [(0, some (Blk.mk [D.int IntKind.i64 x.sign, ib (db 2 x.natAbs)] true)), (1, some (Blk.mk [D.int IntKind.i64 y.sign, ib (db 2 y.natAbs)] true)), (2, some (Blk.mk [D.int IntKind.i64 (x + y).sign, ib (db 2 (x + y).natAbs)] true))] 25)) (fun K => by kernel_rfl) ?_
      exact ⟨h3, h2, by simp [zc_len], awp_ret ⟨.inl rfl, retC (l := true) rfl rfl rfl rfl⟩⟩

theorem zsmall_fn (z : Int) (hz : z.natAbs ≤ 2 ^ 62) : Fn Try.prog 41 [.d (.int .i64 z)] [] (.agg (zc z)) [] := by
  refine fn0 (nt := 22) (res := [.cell 2 31]) Try.func41 rfl (by decide) rfl rfl rfl rfl ?_
  intro C hP hnt hl
  obtain ⟨N, hN⟩ : ∃ N, N = z.natAbs := ⟨_, rfl⟩
  have hzs : sgn (decide (z < 0)) N = z := by unfold sgn; by_cases h : z < 0 <;> simp [h] <;> omega
  refine awp_sx prog_ok hP hnt [] [] [] [0, 2] (by kernel_rfl) (G := fun K => K (St.mk [(0, V.d (D.int IntKind.i64 z)), (2, V.ptr 0 0)] [(0, some (Blk.mk [D.int IntKind.i64 (0 : Int), D.lst 0 []] true))] 1)) (fun K => by kernel_rfl) ?_
  refine awp_sx prog_ok hP hnt [] [] [] [0, 2, 3] (by kernel_rfl) (G := fun K => K (St.mk [(0, V.d (D.int IntKind.i64 z)), (2, V.ptr 0 0), (3, V.d (D.bool (decide (z < (0 : Int)))))] [(0, some (Blk.mk [D.int IntKind.i64 (0 : Int), D.lst 0 []] true))] 4)) (fun K => by kernel_rfl) ?_
  refine awp_cut (ι := Unit) (fun _ => ⟨[(0, .d (.int .i64 N)), (2, .ptr 0 0), (3, .d (.bool (decide (z < 0))))], [(0, some ⟨[.int .i64 0, .lst 0 []], true⟩)], 1⟩) (fun _ => True) ?_ ?_
  · refine awp_sx prog_ok hP hnt [] [] [] [0, 2, 3, 7] (by kernel_rfl) (G := fun K => K (St.mk [(0, V.d (D.int IntKind.i64 z)), (2, V.ptr 0 0), (3, V.d (D.bool (decide (z < (0 : Int))))), (7, V.d (D.bool (decide (z < (0 : Int)))))] [(0, some (Blk.mk [D.int IntKind.i64 (0 : Int), D.lst 0 []] true))] 5)) (fun K => by kernel_rfl) ?_
    refine awp_cond rfl (fun e => ?_) (fun e => awp_skip ⟨(), [(0, 0)], trivial, ?_⟩)
    · simp at e
      refine awp_x prog_ok hP hnt [(9, .int .i64 N)] [] [] [0, 2, 3] (by kernel_rfl) (G := fun K => IntKind.i64.wrap ((0 : Int) - z) = (↑N : Int) ∧ K (St.mk [(0, V.d (D.int IntKind.i64 (↑N : Int))), (2, V.ptr 0 0), (3, V.d (D.bool (decide (z < (0 : Int)))))] [(0, some (Blk.mk [D.int IntKind.i64 (0 : Int), D.lst 0 []] true))] 8)) (fun K => by kernel_rfl) ?_
      refine ⟨by rw [w64] <;> omega, (), [(0, 0)], trivial, ?_⟩
      (constructor <;> simp [hl, envOk, memOk, conv, St.get, St.blk])
    · simp at e
      have : z = N := by omega
      (constructor <;> simp [hl, envOk, memOk, conv, St.get, St.blk, this])
  intro _ _
  refine awp_sx prog_ok hP hnt [] [] [] [0, 2, 3, 4] (by kernel_rfl) (G := fun K => K (St.mk [(0, V.d (D.int IntKind.i64 (↑N : Int))), (2, V.ptr 0 0), (3, V.d (D.bool (decide (z < (0 : Int))))), (4, V.nil)] [(0, some (Blk.mk [D.int IntKind.i64 (0 : Int), D.lst 0 []] true))] 2)) (fun K => by kernel_rfl) ?_
  refine awp_cut (ι := List Nat) (fun o => ⟨[(2, .ptr 0 0), (3, .d (.bool (decide (z < 0)))), (4, .own 1 0 o.length 1)], [(0, some ⟨[.int .i64 0, .lst 0 []], true⟩), (1, some ⟨ibs o, true⟩)], 2⟩) (fun o => Db 2 o ∧ o.length ≤ 2 ^ 40 ∧ vb 2 o = N) ?_ ?_
  · refine awp_block ?_
    refine awp_loop (ι := List Nat × Nat) (fun p => ⟨[(0, .d (.int .i64 p.2)), (2, .ptr 0 0), (3, .d (.bool (decide (z < 0)))), (4, .own 1 0 p.1.length 1)], [(0, some ⟨[.int .i64 0, .lst 0 []], true⟩), (1, some ⟨ibs p.1, true⟩)], 2⟩)
      (fun p => Db 2 p.1 ∧ p.2 ≤ N ∧ p.1.length ≤ 63 ∧ vb 2 p.1 + 2 ^ p.1.length * p.2 = N) (fun p => p.2) ([], N) [(0, 0)] ⟨(fun d hd => by cases hd), by simp, by simp, by simp [vb]⟩ ?_ ?_
    · (constructor <;> simp [hl, envOk, memOk, conv, St.get, St.blk, ibs, fm])
    intro ⟨o, n⟩ ⟨ho, hn, hlen, hv⟩
    simp only at ho hn hlen hv ⊢
    refine awp_seq_k fun K hK => ?_
    refine awp_sx prog_ok hP hnt [] [] [] [0, 2, 3, 4, 11] (by kernel_rfl) (G := fun K => K (St.mk [(0, V.d (D.int IntKind.i64 (↑n : Int))), (2, V.ptr 0 0), (3, V.d (D.bool (decide (z < (0 : Int))))), (4, V.own 1 0 o.length 1), (11, V.d (D.bool (decide ((↑n : Int) > (0 : Int)))))] [(0, some (Blk.mk [D.int IntKind.i64 (0 : Int), D.lst 0 []] true)), (1, some (Blk.mk (ibs o) true))] 4)) (fun K => by kernel_rfl) ?_
    refine awp_cond rfl (fun e => awp_skip (hK _ ?_)) (fun e => awp_exit ⟨o, [(0, 0), (1, 1)], ?_, ?_⟩)
    · simp at e
      refine awp_block ?_
      refine awp_sx prog_ok hP hnt [(14, .int .i64 (n % 2 : Nat))] [] [] [0, 2, 3, 4] (by kernel_rfl) (G := fun K => (2 : Int) ≠ (0 : Int) ∧ (↑n : Int).tmod (2 : Int) = (↑(n % 2) : Int) ∧ 1 = 1 ∧ ((ibs o).length = o.length * 1 ∧ (o.length + 1) * 8 ≤ 2 ^ 47) ∧ K (St.mk [(0, V.d (D.int IntKind.i64 (↑n : Int))), (2, V.ptr 0 0), (3, V.d (D.bool (decide (z < (0 : Int))))), (4, V.own 8 0 (o.length + 1) 1)] [(0, some (Blk.mk [D.int IntKind.i64 (0 : Int), D.lst 0 []] true)), (1, none), (8, some (Blk.mk (ibs o ++ setCells (zeros 1 (TI.mk (Kind.int IntKind.i64) 1 8 [D.int IntKind.i64 (0 : Int)]).zero) 0 [D.int IntKind.i64 (↑(n % 2) : Int)]) true))] 10)) (fun K => by kernel_rfl) ?_
      have happ := ibs_app o (n % 2)
      have hl62 : o.length ≤ 62 := by
        rcases Nat.lt_or_ge 62 o.length with h | h
        · have h1 : 2 ^ 63 ≤ 2 ^ o.length := Nat.pow_le_pow_right (by omega) h
          have h2 : 2 ^ o.length * 1 ≤ 2 ^ o.length * n := Nat.mul_le_mul_left _ e
          omega
        · exact h
      refine ⟨by decide, tmodN n 2, rfl, ⟨by simp, by omega⟩, ?_⟩
      refine awp_x prog_ok hP hnt [(18, .int .i64 (n / 2 : Nat))] [] [] [0, 2, 3, 4] (by kernel_rfl) (G := fun K => (2 : Int) ≠ (0 : Int) ∧ IntKind.i64.wrap ((↑n : Int).tdiv (2 : Int)) = (↑(n / 2) : Int) ∧ K (St.mk [(0, V.d (D.int IntKind.i64 (↑(n / 2) : Int))), (2, V.ptr 0 0), (3, V.d (D.bool (decide (z < (0 : Int))))), (4, V.own 8 0 (o.length + 1) 1)] [(0, some (Blk.mk [D.int IntKind.i64 (0 : Int), D.lst 0 []] true)), (1, none), (8, some (Blk.mk (ibs o ++ setCells (zeros 1 (TI.mk (Kind.int IntKind.i64) 1 8 [D.int IntKind.i64 (0 : Int)]).zero) 0 [D.int IntKind.i64 (↑(n % 2) : Int)]) true))] 13)) (fun K => by kernel_rfl) ?_
      refine ⟨by decide, tdivN n 2 (by omega), (o ++ [n % 2], n / 2), [(0, 0), (1, 8)], ⟨⟨db_snoc ho (by omega), by simp only; omega, by simp; omega, ?_⟩, by simp only; omega⟩, ?_⟩
      · simp only [List.length_append, List.length_cons, List.length_nil, vb_snoc, Nat.zero_add, Nat.pow_succ]
        have e5 : 2 ^ o.length * n = 2 ^ o.length * (2 * (n / 2) + n % 2) := by rw [Nat.div_add_mod]
        generalize n / 2 = d at *
        generalize n % 2 = s at *
        generalize 2 ^ o.length = B at *
        grind
      · (constructor <;> simp [hl, envOk, memOk, conv, St.get, St.blk, ← happ, setCells, zeros])
    · simp at e
      subst e
      exact ⟨ho, by omega, by simpa using hv⟩
    · (constructor <;> simp [hl, envOk, memOk, conv, St.get, St.blk])
  intro o ⟨ho, hol, hov⟩
  have h1 := zmake_fn (decide (z < 0)) o ho hol
  rw [hov, hzs] at h1
  refine awp_sx prog_ok hP hnt [] [.val (.agg (zc z))] [] [2] (by kernel_rfl) (G := fun K => Fn Try.prog 59 [V.d (D.bool (decide (z < (0 : Int)))), V.d (D.lst o.length (List.take (o.length * 1) (List.drop 0 (ibs o))))] [] (V.agg [D.int IntKind.i64 z.sign, ib (db 2 z.natAbs)]) [] ∧ 0 + (zc z).length ≤ [D.int IntKind.i64 (0 : Int), D.lst 0 []].length ∧ K (St.mk [(2, V.ptr 0 0)] [(0, some (Blk.mk [D.int IntKind.i64 z.sign, ib (db 2 z.natAbs)] true)), (1, some (Blk.mk (ibs o) false))] 6)) (fun K => by kernel_rfl) ?_
  refine ⟨?_, by simp [zc_len], awp_ret ⟨.inl rfl, retC (l := true) rfl rfl rfl rfl⟩⟩
  have := own_fm i1_len (l := o) rfl
  rw [this]
  exact h1
end Go.Abs

set_option linter.unusedVariables false
set_option linter.unusedSimpArgs false
namespace Go.Abs
open Go Go.Proofs
set_option maxRecDepth 100000

theorem u32s_app (l : List Nat) (s : Nat) : u32s l ++ [.int .u32 s] = u32s (l ++ [s]) := by simp [u32s]
/-- digits with the same value and no more of them -/
theorem dig_same {o : List Nat} (h : Dg o) (hl : o.length ≤ (dig (val o)).length) : o = dig (val o) := by
  refine can_dig h fun e => ?_
  have hne : o ≠ [] := fun e0 => by subst e0; simp at e
  obtain ⟨p, x, rfl⟩ : ∃ p x, o = p ++ [x] := ⟨o.dropLast, o.getLast hne, (List.dropLast_concat_getLast hne).symm⟩
  rw [List.getLast?_concat] at e
  have hx : x = 0 := by simpa using e
  subst hx
  have h1 : val (p ++ [0]) = val p := by rw [val_append]; simp [val]
  rw [h1] at hl
  have h2 := dig_le (l := p) fun d hd => h d (by simp [hd])
  simp at hl
  omega

theorem bto_fn (l : List Nat) (hl1 : Db 2 l) (hn : l.length ≤ 2 ^ 40) : Fn Try.prog 219 [.d (ib l)] [] (.d (du (dig (vb 2 l)))) [] := by
  refine fn0 (nt := 36) (res := [.tmp 2]) Try.func219 rfl (by decide) rfl rfl rfl rfl ?_
  intro C hP hnt hl
  have ht := btrim_fn l hl1 hn
  obtain ⟨N, hN⟩ : ∃ N, N = vb 2 l := ⟨_, rfl⟩
  rw [← hN] at ht ⊢
  have hN2 : N < 2 ^ l.length := hN ▸ vb_lt (by omega) hl1
  obtain ⟨B, hB⟩ : ∃ B, B = db 2 N := ⟨_, rfl⟩
  rw [← hB] at ht
  have hBd : Db 2 B := hB ▸ db2 N
  have hBv : vb 2 B = N := by rw [hB, vbdb]
  have hBl : B.length ≤ 2 ^ 40 := by rw [hB]; have := dblen hN2; omega
  have hBt : B.length ≠ 0 → 2 ^ (B.length - 1) ≤ N := fun h => by rw [hB] at h ⊢; exact db_ge (by omega) (by omega)
  refine awp_sx prog_ok hP hnt [] [] [] [0] (by kernel_rfl) (G := fun K => K (St.mk [(0, V.d (ib l))] [] 1)) (fun K => by kernel_rfl) ?_
  refine awp_sx prog_ok hP hnt [] [.val (.d (ib B))] [] [0] (by kernel_rfl) (G := fun K => Fn Try.prog 166 [V.d (ib l)] [] (V.d (ib B)) [] ∧ K (St.mk [(0, V.d (ib B))] [] 4)) (fun K => by kernel_rfl) ?_
  refine ⟨ht, ?_⟩
  refine awp_sx prog_ok hP hnt [] [] [] [0, 3] (by kernel_rfl) (G := fun K => K (St.mk [(0, V.d (ib B)), (3, V.nil)] [] 5)) (fun K => by kernel_rfl) ?_
  refine awp_cut (ι := List Nat) (fun o => ⟨[(3, .own 0 0 o.length 1)], [(0, some ⟨u32s o, true⟩)], 1⟩) (fun o => o = dig N) ?_ ?_
  · refine awp_sx prog_ok hP hnt [] [] [] [0, 3, 4] (by kernel_rfl) (G := fun K => K (St.mk [(0, V.d (ib B)), (3, V.nil), (4, V.d (D.int IntKind.i64 (0 : Int)))] [] 6)) (fun K => by kernel_rfl) ?_
    refine awp_block ?_
    refine awp_loop (ι := Nat × List Nat) (fun p => ⟨[(0, .d (ib B)), (3, .own 0 0 p.2.length 1), (4, .d (.int .i64 p.1))], [(0, some ⟨u32s p.2, true⟩)], 1⟩)
      (fun p => p.1 ≤ B.length ∧ p.2.length = (p.1 + 31) / 32 ∧ Dg p.2 ∧ val p.2 = vb 2 (B.take p.1)) (fun p => B.length - p.1) (0, []) [] ⟨by simp, by simp, (fun d hd => by cases hd), by simp [vb, val]⟩ ?_ ?_
    · (constructor <;> simp [hl, envOk, memOk, conv, St.get, St.blk, u32s])
    intro ⟨i, o⟩ ⟨hi, hol, hod, hov⟩
    simp only at hi hol hod hov ⊢
    refine awp_seq_k fun K hK => ?_
    refine awp_sx prog_ok hP hnt [] [] [] [0, 3, 4, 10] (by kernel_rfl) (G := fun K => K (St.mk [(0, V.d (ib B)), (3, V.own 0 0 o.length 1), (4, V.d (D.int IntKind.i64 (↑i : Int))), (10, V.d (D.bool (decide ((↑i : Int) < (↑B.length : Int)))))] [(0, some (Blk.mk (u32s o) true))] 5)) (fun K => by kernel_rfl) ?_
    refine awp_cond rfl (fun e => awp_skip (hK _ ?_)) (fun e => awp_exit ⟨o, [(0, 0)], ?_, ?_⟩)
    · simp at e
      refine awp_seq_k fun K2 hK2 => ?_
      refine awp_block ?_
      refine awp_cut (ι := List Nat) (fun o => ⟨[(0, .d (ib B)), (3, .own 0 0 o.length 1), (4, .d (.int .i64 i))], [(0, some ⟨u32s o, true⟩)], 1⟩)
        (fun o => o.length = i / 32 + 1 ∧ Dg o ∧ val o = vb 2 (B.take i)) ?_ ?_
      · refine awp_sx prog_ok hP hnt [(14, .int .i64 (i % 32 : Nat))] [] [] [0, 3, 4, 15] (by kernel_rfl) (G := fun K => (32 : Int) ≠ (0 : Int) ∧ (↑i : Int).tmod (32 : Int) = (↑(i % 32) : Int) ∧ K (St.mk [(0, V.d (ib B)), (3, V.own 0 0 o.length 1), (4, V.d (D.int IntKind.i64 (↑i : Int))), (15, V.d (D.bool ((↑(i % 32) : Int) == (0 : Int))))] [(0, some (Blk.mk (u32s o) true))] 8)) (fun K => by kernel_rfl) ?_
        refine ⟨by decide, tmodN i 32, awp_cond rfl (fun e2 => ?_) (fun e2 => awp_skip ⟨o, [(0, 0)], ?_, ?_⟩)⟩
        · simp at e2
          refine awp_x prog_ok hP hnt [] [] [] [0, 3, 4] (by kernel_rfl) (G := fun K => 1 = 1 ∧ ((u32s o).length = o.length * 1 ∧ (o.length + 1) * 4 ≤ 2 ^ 47) ∧ K (St.mk [(0, V.d (ib B)), (3, V.own 10 0 (o.length + 1) 1), (4, V.d (D.int IntKind.i64 (↑i : Int)))] [(0, none), (10, some (Blk.mk (u32s o ++ setCells (zeros 1 (TI.mk (Kind.int IntKind.u32) 1 4 [D.int IntKind.u32 (0 : Int)]).zero) 0 [D.int IntKind.u32 (0 : Int)]) true))] 12)) (fun K => by kernel_rfl) ?_
          have happ := u32s_app o 0
          refine ⟨rfl, ⟨by simp, by omega⟩, o ++ [0], [(0, 10)], ⟨by simp [hol]; omega, ?_, by rw [val_append, ← hov]; simp [val]⟩, ?_⟩
          · intro d hd
            rcases List.mem_append.1 hd with h | h
            · exact hod d h
            · simp at h; omega
          · (constructor <;> simp [hl, envOk, memOk, conv, St.get, St.blk, ← happ, setCells, zeros])
        · simp at e2
          exact ⟨by omega, hod, hov⟩
        · (constructor <;> simp [hl, envOk, memOk, conv, St.get, St.blk])
      intro o ⟨hol, hod, hov⟩
      obtain ⟨x, hx⟩ := get_ex (l := B) (i := i) e
      have hx2 : x < 2 := db_get hBd hx
      obtain ⟨y, hy⟩ := get_ex (l := o) (i := i / 32) (by omega)
      have hyd : o.getD (i / 32) 0 = y := by rw [List.getD_eq_getElem?_getD, hy]; rfl
      have hlt : vb 2 (B.take i) < 2 ^ i := by
        have := vb_lt (b := 2) (by omega) (db_take hBd i)
        rwa [List.length_take, Nat.min_eq_left (by omega)] at this
      have hd := vb_digit_le (b := 4294967296) o (i / 32)
      rw [← val_vb, hov, hyd] at hd
      have hsp := pow_split 4294967296 32 i rfl
      have hdig : y < 2 ^ (i % 32) := by
        apply Nat.lt_of_mul_lt_mul_left (a := 4294967296 ^ (i / 32))
        rw [hsp]; omega
      have hput := vb_put (b := 4294967296) (l := o) (i := i / 32) (y + x * 2 ^ (i % 32)) (by omega)
      rw [hyd, ← val_vb, ← val_vb] at hput
      have h3 : 2 ^ (i % 32) ≤ 2 ^ 31 := Nat.pow_le_pow_right (by omega) (by omega)
      have h4 : x * 2 ^ (i % 32) ≤ 1 * 2 ^ (i % 32) := Nat.mul_le_mul_right _ (by omega)
      have hsc := setCells_u32 o (i / 32) (y + x * 2 ^ (i % 32))
      refine awp_x prog_ok hP hnt [(21, .int .i64 (i / 32 : Nat)), (28, .int .u32 x), (30, .int .i64 (i % 32 : Nat)), (31, .int .u64 (i % 32 : Nat)), (32, .int .u32 (x * 2 ^ (i % 32) : Nat)), (33, .int .u32 (y + x * 2 ^ (i % 32) : Nat))] [] [some [.int .u32 y], some [.int .i64 x]] [0, 3, 4] (by kernel_rfl) (G := fun K => (32 : Int) ≠ (0 : Int) ∧ IntKind.i64.wrap ((↑i : Int).tdiv (32 : Int)) = (↑(i / 32) : Int) ∧ ((0 : Int) ≤ (↑(i / 32) : Int) ∧ (↑(i / 32) : Int) < (↑o.length : Int)) ∧ (u32s o)[0 + (↑(i / 32) : Int).toNat * 1]? = some (D.int IntKind.u32 (↑y : Int)) ∧ ((0 : Int) ≤ (↑i : Int) ∧ (↑i : Int) < (↑B.length : Int) ∧ ((↑i : Int).toNat + 1) * 1 ≤ (ibs B).length) ∧ (List.drop ((↑i : Int).toNat * 1) (ibs B))[0]? = some (D.int IntKind.i64 (↑x : Int)) ∧ IntKind.u32.wrap (↑x : Int) = (↑x : Int) ∧ (32 : Int) ≠ (0 : Int) ∧ (↑i : Int).tmod (32 : Int) = (↑(i % 32) : Int) ∧ IntKind.u64.wrap (↑(i % 32) : Int) = (↑(i % 32) : Int) ∧ (0 : Int) ≤ (↑(i % 32) : Int) ∧ IntKind.u32.wrap ((↑x : Int) * (2 : Int) ^ min (↑(i % 32) : Int).toNat IntKind.u32.bits) = (↑(x * 2 ^ (i % 32)) : Int) ∧ IntKind.u32.wrap ((↑y : Int) + (↑(x * 2 ^ (i % 32)) : Int)) = (↑(y + x * 2 ^ (i % 32)) : Int) ∧ ((0 : Int) ≤ (↑(i / 32) : Int) ∧ (↑(i / 32) : Int) < (↑o.length : Int)) ∧ 0 + (↑(i / 32) : Int).toNat * 1 + [D.int IntKind.u32 (↑(y + x * 2 ^ (i % 32)) : Int)].length ≤ (u32s o).length ∧ K (St.mk [(0, V.d (ib B)), (3, V.own 0 0 o.length 1), (4, V.d (D.int IntKind.i64 (↑i : Int)))] [(0, some (Blk.mk (setCells (u32s o) (0 + (↑(i / 32) : Int).toNat * 1) [D.int IntKind.u32 (↑(y + x * 2 ^ (i % 32)) : Int)]) true))] 18)) (fun K => by kernel_rfl) ?_
      refine ⟨by decide, tdivN i 32 (by omega), ⟨by omega, by omega⟩, by rw [Int.toNat_natCast, Nat.zero_add, Nat.mul_one]; exact u32s_some hy, ⟨by omega, by omega, by simp; omega⟩, drop0 (ibs_some hx), u32nat (by omega), by decide, tmodN i 32, u64nat (by omega), by omega,
        by rw [shlN x (i % 32) (w := IntKind.u32.bits) (by show i % 32 ≤ 32; omega)]; exact u32nat (by omega), by rw [← Int.natCast_add]; exact u32nat (by omega), ⟨by omega, by omega⟩, by rw [Int.toNat_natCast, u32s_len, hol]; show 0 + i / 32 * 1 + 1 ≤ i / 32 + 1; omega, hK2 _ ?_⟩
      refine awp_x prog_ok hP hnt [(12, .int .i64 (i + 1 : Nat))] [] [] [0, 3, 4] (by kernel_rfl) (G := fun K => IntKind.i64.wrap ((↑i : Int) + (1 : Int)) = (↑(i + 1) : Int) ∧ K (St.mk [(0, V.d (ib B)), (3, V.own 0 0 o.length 1), (4, V.d (D.int IntKind.i64 (↑(i + 1) : Int)))] [(0, some (Blk.mk (setCells (u32s o) (0 + (↑(i / 32) : Int).toNat * 1) [D.int IntKind.u32 (↑(y + x * 2 ^ (i % 32)) : Int)]) true))] 21)) (fun K => by kernel_rfl) ?_
      refine ⟨by rw [w64] <;> omega, (i + 1, o.set (i / 32) (y + x * 2 ^ (i % 32))), [(0, 0)], ⟨⟨by simp only; omega, by simp [hol]; omega, dg_set hod (by omega), ?_⟩, by simp only; omega⟩, ?_⟩
      · simp only
        rw [vb_take_succ hx, ← hov, ← hsp]
        generalize 4294967296 ^ (i / 32) = A at *
        generalize 2 ^ (i % 32) = B at *
        grind
      · rw [Int.toNat_natCast, Nat.mul_one, Nat.zero_add, hsc]
        (constructor <;> simp [hl, envOk, memOk, conv, St.get, St.blk])
    · simp at e
      have : i = B.length := by omega
      subst this
      rw [List.take_length, hBv] at hov
      have := dig_same hod (by
        rw [hov, hol]
        by_cases h0 : B.length = 0
        · rw [h0]; simp
        · have h1 := hBt h0
          rcases Nat.lt_or_ge (dig N).length ((B.length + 31) / 32) with h2 | h2
          · have h3 := dig_lt_of_len (n := N) (k := (B.length + 31) / 32 - 1) (by omega)
            rw [show (4294967296 : Nat) = 2 ^ 32 by rfl, ← Nat.pow_mul] at h3
            have h4 : 2 ^ (32 * ((B.length + 31) / 32 - 1)) ≤ 2 ^ (B.length - 1) := Nat.pow_le_pow_right (by omega) (by omega)
            omega
          · exact h2)
      rw [hov] at this
      exact this
    · (constructor <;> simp [hl, envOk, memOk, conv, St.get, St.blk])
  intro o ho
  refine awp_sx prog_ok hP hnt [] [] [] [2] (by kernel_rfl) (G := fun K => K (St.mk [(2, V.own 0 0 o.length 1)] [(0, some (Blk.mk (u32s o) true))] 3)) (fun K => by kernel_rfl) ?_
  refine awp_ret ⟨.inl rfl, retOwn rfl rfl ?_⟩
  rw [Nat.mul_one, own_du rfl, ho]

theorem bis_fn (a l : List Nat) (hl1 : Db 2 l) (hn : l.length ≤ 2 ^ 40) (ha : a.length ≤ 2 ^ 40) : Fn Try.prog 170 [.d (du a), .d (ib l)] [] (.d (.bool (decide (a = dig (vb 2 l))))) [] := by
  refine fn0 (nt := 29) (res := [.tmp 4]) Try.func170 rfl (by decide) rfl rfl rfl rfl ?_
  intro C hP hnt hl
  have ht := bto_fn l hl1 hn
  obtain ⟨B, hB⟩ : ∃ B, B = dig (vb 2 l) := ⟨_, rfl⟩
  rw [← hB] at ht ⊢
  refine awp_sx prog_ok hP hnt [] [] [] [0, 1] (by kernel_rfl) (G := fun K => K (St.mk [(0, V.d (du a)), (1, V.d (ib l))] [] 1)) (fun K => by kernel_rfl) ?_
  refine awp_sx prog_ok hP hnt [] [.val (.d (du B))] [] [0, 5] (by kernel_rfl) (G := fun K => Fn Try.prog 219 [V.d (ib l)] [] (V.d (du B)) [] ∧ K (St.mk [(0, V.d (du a)), (5, V.d (du B))] [] 4)) (fun K => by kernel_rfl) ?_
  refine ⟨ht, ?_⟩
  refine awp_seq_k fun K hK => ?_
  refine awp_sx prog_ok hP hnt [] [] [] [0, 5, 13] (by kernel_rfl) (G := fun K => K (St.mk [(0, V.d (du a)), (5, V.d (du B)), (13, V.d (D.bool ((↑a.length : Int) != (↑B.length : Int))))] [] 9)) (fun K => by kernel_rfl) ?_
  refine awp_cond rfl (fun e => ?_) (fun e => awp_skip (hK _ ?_))
  · simp at e
    refine awp_sx prog_ok hP hnt [] [] [] [4] (by kernel_rfl) (G := fun K => K (St.mk [(4, V.d (D.bool false))] [] 10)) (fun K => by kernel_rfl) ?_
    refine awp_ret ⟨.inl rfl, retD ?_⟩
    rw [decide_eq_false (fun h => e (by rw [h]))]; rfl
  simp at e
  refine awp_cut (ι := Unit) (fun _ => ⟨[], [], 0⟩) (fun _ => a = B) ?_ ?_
  · refine awp_sx prog_ok hP hnt [] [] [] [0, 5, 6] (by kernel_rfl) (G := fun K => K (St.mk [(0, V.d (du a)), (5, V.d (du B)), (6, V.d (D.int IntKind.i64 (0 : Int)))] [] 10)) (fun K => by kernel_rfl) ?_
    refine awp_block ?_
    refine awp_loop (ι := Nat) (fun i => ⟨[(0, .d (du a)), (5, .d (du B)), (6, .d (.int .i64 i))], [], 0⟩)
      (fun i => i ≤ a.length ∧ ∀ k, k < i → a[k]? = B[k]?) (fun i => a.length - i) 0 [] ⟨by simp, by simp⟩ ?_ ?_
    · (constructor <;> simp [hl, envOk, memOk, conv, St.get, St.blk])
    intro i ⟨hi, hz⟩
    refine awp_seq_k fun K hK => ?_
    refine awp_sx prog_ok hP hnt [] [] [] [0, 5, 6, 17] (by kernel_rfl) (G := fun K => K (St.mk [(0, V.d (du a)), (5, V.d (du B)), (6, V.d (D.int IntKind.i64 (↑i : Int))), (17, V.d (D.bool (decide ((↑i : Int) < (↑a.length : Int)))))] [] 4)) (fun K => by kernel_rfl) ?_
    refine awp_cond rfl (fun e => awp_skip (hK _ ?_)) (fun e => awp_exit ⟨(), [], ?_, ?_⟩)
    · simp at e
      obtain ⟨x, hx⟩ := get_ex (l := a) (i := i) e
      obtain ⟨y, hy⟩ := get_ex (l := B) (i := i) (by omega)
      refine awp_seq_k fun K2 hK2 => ?_
      refine awp_block ?_
      refine awp_sx prog_ok hP hnt [] [] [some [.int .u32 x], some [.int .u32 y]] [0, 5, 6, 28] (by kernel_rfl) (G := fun K => ((0 : Int) ≤ (↑i : Int) ∧ (↑i : Int) < (↑a.length : Int) ∧ ((↑i : Int).toNat + 1) * 1 ≤ (u32s a).length) ∧ (List.drop ((↑i : Int).toNat * 1) (u32s a))[0]? = some (D.int IntKind.u32 (↑x : Int)) ∧ ((0 : Int) ≤ (↑i : Int) ∧ (↑i : Int) < (↑B.length : Int) ∧ ((↑i : Int).toNat + 1) * 1 ≤ (u32s B).length) ∧ (List.drop ((↑i : Int).toNat * 1) (u32s B))[0]? = some (D.int IntKind.u32 (↑y : Int)) ∧ K (St.mk [(0, V.d (du a)), (5, V.d (du B)), (6, V.d (D.int IntKind.i64 (↑i : Int))), (28, V.d (D.bool ((↑x : Int) != (↑y : Int))))] [] 13)) (fun K => by kernel_rfl) ?_
      refine ⟨⟨by omega, by omega, by simp; omega⟩, drop0 (u32s_some hx), ⟨by omega, by omega, by simp; omega⟩, drop0 (u32s_some hy), awp_cond rfl (fun e2 => ?_) (fun e2 => awp_skip (hK2 _ ?_))⟩
      · simp at e2
        refine awp_sx prog_ok hP hnt [] [] [] [4] (by kernel_rfl) (G := fun K => K (St.mk [(4, V.d (D.bool false))] [] 14)) (fun K => by kernel_rfl) ?_
        refine awp_ret ⟨.inl rfl, retD ?_⟩
        rw [decide_eq_false (fun h => e2 (by rw [h, hy] at hx; cases hx; rfl))]; rfl
      · simp at e2
        have : x = y := by omega
        refine awp_x prog_ok hP hnt [(19, .int .i64 (i + 1 : Nat))] [] [] [0, 5, 6] (by kernel_rfl) (G := fun K => IntKind.i64.wrap ((↑i : Int) + (1 : Int)) = (↑(i + 1) : Int) ∧ K (St.mk [(0, V.d (du a)), (5, V.d (du B)), (6, V.d (D.int IntKind.i64 (↑(i + 1) : Int)))] [] 16)) (fun K => by kernel_rfl) ?_
        refine ⟨by rw [w64] <;> omega, i + 1, [], ⟨⟨by omega, fun k hk => ?_⟩, by omega⟩, ?_⟩
        · by_cases h : k = i
          · subst h; rw [hx, hy, this]
          · exact hz k (by omega)
        · (constructor <;> simp [hl, envOk, memOk, conv, St.get, St.blk])
    · simp at e
      apply List.ext_getElem?
      intro k
      by_cases hk : k < a.length
      · exact hz k (by omega)
      · rw [List.getElem?_eq_none (by omega), List.getElem?_eq_none (by omega)]
    · (constructor <;> simp [hl, envOk, memOk, conv, St.get, St.blk])
  intro _ h
  refine awp_sx prog_ok hP hnt [] [] [] [4] (by kernel_rfl) (G := fun K => K (St.mk [(4, V.d (D.bool true))] [] 1)) (fun K => by kernel_rfl) ?_
  refine awp_ret ⟨.inl rfl, retD ?_⟩
  rw [decide_eq_true h]; rfl

theorem zis_fn (s : Bool) (a : List Nat) (z : Int) (ha : a.length ≤ 2 ^ 40) {K : Nat} (hK : K ≤ 2 ^ 40) (hz : z.natAbs < 2 ^ K) : Fn Try.prog 69 [.d (.bool s), .d (du a), .agg (zc z)] [] (.d (.bool (decide ((s, a) = riz z)))) [] := by
  refine fn0 (nt := 18) (res := [.tmp 6]) Try.func69 rfl (by decide) rfl rfl rfl rfl ?_
  intro C hP hnt hl
  have h1 := bis_fn a (db 2 z.natAbs) (db2 _) (Nat.le_trans (dblen hz) hK) ha
  rw [vbdb] at h1
  have hs : decide (z.sign < 0) = decide (z < 0) := by rcases sgn3 z with ⟨a1, a2⟩ | ⟨a1, a2⟩ | ⟨a1, a2⟩ <;> rw [a2] <;> simp <;> omega
  refine awp_sx prog_ok hP hnt [] [] [] [0, 1, 5] (by kernel_rfl) (G := fun K => K (St.mk [(0, V.d (D.bool s)), (1, V.d (du a)), (5, V.ptr 0 0)] [(0, some (Blk.mk [D.int IntKind.i64 z.sign, ib (db 2 z.natAbs)] true))] 2)) (fun K => by kernel_rfl) ?_
  by_cases e : s = decide (z < 0)
  · refine awp_sx prog_ok hP hnt [(11, .bool true)] [.val (.d (.bool (decide (a = dig z.natAbs))))] [] [6] (by kernel_rfl) (G := fun K => (s == decide (z.sign < (0 : Int))) = true ∧ Fn Try.prog 170 [V.d (du a), V.d (ib (db 2 z.natAbs))] [] (V.d (D.bool (decide (a = dig z.natAbs)))) [] ∧ K (St.mk [(6, V.d (D.bool (decide (a = dig z.natAbs))))] [(0, some (Blk.mk [D.int IntKind.i64 z.sign, ib (db 2 z.natAbs)] true))] 14)) (fun K => by kernel_rfl) ?_
    refine ⟨by rw [hs, e]; simp, h1, awp_ret ⟨.inl rfl, retD ?_⟩⟩
    have : decide ((s, a) = riz z) = decide (a = dig z.natAbs) := by
      rw [Bool.eq_iff_iff, decide_eq_true_iff, decide_eq_true_iff]
      unfold riz
      simp [e]
    rw [this]; rfl
  · refine awp_sx prog_ok hP hnt [(11, .bool false)] [] [] [6] (by kernel_rfl) (G := fun K => (s == decide (z.sign < (0 : Int))) = false ∧ K (St.mk [(6, V.d (D.bool false))] [(0, some (Blk.mk [D.int IntKind.i64 z.sign, ib (db 2 z.natAbs)] true))] 14)) (fun K => by kernel_rfl) ?_
    refine ⟨by rw [hs]; cases s <;> cases hd : decide (z < 0) <;> simp_all, awp_ret ⟨.inl rfl, retD ?_⟩⟩
    have : decide ((s, a) = riz z) = false := decide_eq_false fun h => e (by unfold riz at h; simp at h; exact h.1)
    rw [this]; rfl
end Go.Abs

set_option linter.unusedVariables false
set_option linter.unusedSimpArgs false
namespace Go.Abs
open Go Go.Proofs
set_option maxRecDepth 100000

theorem zcs_drop {l : List Int} {i : Nat} {z : Int} (h : l[i]? = some z) : (zcs l).drop (((i : Nat) : Int).toNat * 2) = .int .i64 z.sign :: ib (db 2 z.natAbs) :: zcs (l.drop (i + 1)) := by
  rw [Int.toNat_natCast]; exact zcs_at h

theorem ztrim_fn (l : List Int) (hn : l.length ≤ 2 ^ 40) : Fn Try.prog 55 [.d (zl l)] [] (.d (zl (cs (polL l)))) [] := by
  refine fn0 (nt := 22) (res := [.tmp 2]) Try.func55 rfl (by decide) rfl rfl rfl rfl ?_
  intro Cx hP hnt hl
  refine awp_sx prog_ok hP hnt [] [] [] [0] (by kernel_rfl) (G := fun K => K (St.mk [(0, V.d (zl l))] [] 1)) (fun K => by kernel_rfl) ?_
  refine awp_sx prog_ok hP hnt [] [] [] [0, 3] (by kernel_rfl) (G := fun K => K (St.mk [(0, V.d (zl l)), (3, V.d (D.int IntKind.i64 (↑l.length : Int)))] [] 4)) (fun K => by kernel_rfl) ?_
  refine awp_cut (ι := Nat) (fun n => ⟨[(0, .d (zl l)), (3, .d (.int .i64 n))], [], 0⟩) (fun n => n ≤ l.length ∧ (∀ k x, n ≤ k → l[k]? = some x → x = 0) ∧ (n = 0 ∨ ∃ x, l[n - 1]? = some x ∧ x ≠ 0)) ?_ ?_
  · refine awp_block ?_
    refine awp_loop (ι := Nat) (fun n => ⟨[(0, .d (zl l)), (3, .d (.int .i64 n))], [], 0⟩)
      (fun n => n ≤ l.length ∧ (∀ k x, n ≤ k → l[k]? = some x → x = 0)) (fun n => n) l.length [] ⟨Nat.le_refl _, fun k x hk hx => by rw [List.getElem?_eq_none hk] at hx; cases hx⟩ ?_ ?_
    · (constructor <;> simp [hl, envOk, memOk, conv, St.get, St.blk])
    intro n ⟨hle, hz⟩
    refine awp_seq_k fun K hK => ?_
    by_cases h0 : n = 0
    · subst h0
      refine awp_sx prog_ok hP hnt [(8, .bool false)] [] [] [0, 3, 16] (by kernel_rfl) (G := fun K => decide ((↑0 : Int) > (0 : Int)) = false ∧ K (St.mk [(0, V.d (zl l)), (3, V.d (D.int IntKind.i64 (↑0 : Int))), (16, V.d (D.bool false))] [] 11)) (fun K => by kernel_rfl) ?_
      refine ⟨rfl, awp_cond (b := false) rfl nofun fun _ => awp_exit ⟨0, [], ⟨by omega, hz, .inl rfl⟩, ?_⟩⟩
      (constructor <;> simp [hl, envOk, memOk, conv, St.get, St.blk])
    obtain ⟨x, hx⟩ := get_ex (l := l) (i := n - 1) (by omega)
    refine awp_sx prog_ok hP hnt [(8, .bool true), (11, .int .i64 (n - 1 : Nat))] [] [some [.int .i64 x.sign]] [0, 3, 16] (by kernel_rfl) (G := fun K => decide ((↑n : Int) > (0 : Int)) = true ∧ IntKind.i64.wrap ((↑n : Int) - (1 : Int)) = (↑(n - 1) : Int) ∧ ((0 : Int) ≤ (↑(n - 1) : Int) ∧ (↑(n - 1) : Int) < (↑l.length : Int) ∧ ((↑(n - 1) : Int).toNat + 1) * 2 ≤ (zcs l).length) ∧ (List.drop 0 (List.drop ((↑(n - 1) : Int).toNat * 2) (zcs l)))[0]? = some (D.int IntKind.i64 x.sign) ∧ K (St.mk [(0, V.d (zl l)), (3, V.d (D.int IntKind.i64 (↑n : Int))), (16, V.d (D.bool (x.sign == (0 : Int))))] [] 11)) (fun K => by kernel_rfl) ?_
    refine ⟨by simp; omega, by rw [w64] <;> omega, ⟨by omega, by omega, by simp; omega⟩, by rw [zcs_drop hx]; rfl, awp_cond rfl (fun e => awp_skip (hK _ ?_)) (fun e => awp_exit ⟨n, [], ⟨hle, hz, .inr ⟨x, hx, ?_⟩⟩, ?_⟩)⟩
    · simp [Int.sign_eq_zero_iff_zero] at e
      refine awp_block ?_
      refine awp_x prog_ok hP hnt [(18, .int .i64 (n - 1 : Nat))] [] [] [0, 3] (by kernel_rfl) (G := fun K => IntKind.i64.wrap ((↑n : Int) - (1 : Int)) = (↑(n - 1) : Int) ∧ K (St.mk [(0, V.d (zl l)), (3, V.d (D.int IntKind.i64 (↑(n - 1) : Int)))] [] 14)) (fun K => by kernel_rfl) ?_
      refine ⟨by rw [w64] <;> omega, n - 1, [], ⟨⟨by omega, fun k y hk hy => ?_⟩, by omega⟩, ?_⟩
      · by_cases e2 : k = n - 1
        · subst e2; rw [hx] at hy; cases hy; exact e
        · exact hz k y (by omega) hy
      · (constructor <;> simp [hl, envOk, memOk, conv, St.get, St.blk])
    · simp [Int.sign_eq_zero_iff_zero] at e; exact e
    · (constructor <;> simp [hl, envOk, memOk, conv, St.get, St.blk])
  intro n ⟨h1, h2, h3⟩
  refine awp_sx prog_ok hP hnt [] [] [] [2] (by kernel_rfl) (G := fun K => ((0 : Int) ≤ (↑n : Int) ∧ (↑n : Int) ≤ (↑l.length : Int)) ∧ K (St.mk [(2, V.d (D.lst (↑n : Int).toNat (List.take ((↑n : Int).toNat * 2) (zcs l))))] [] 4)) (fun K => by kernel_rfl) ?_
  refine ⟨⟨by omega, by omega⟩, awp_ret ⟨.inl rfl, retD ?_⟩⟩
  rw [← cut_cs h1 h2 h3]
  show V.d _ = V.d _
  rw [zl, List.length_take, Nat.min_eq_left h1, Int.toNat_natCast, fm_take zc_len]

theorem polL_tb {f : Poly} {n : Nat} (h : ∀ k, n ≤ k → f.c k = 0) : polL (tb f.c n) = f := Poly.ext_c fun k => by
  rw [polL_c, List.getD_eq_getElem?_getD]
  by_cases hk : k < n
  · rw [tb_get hk]; rfl
  · rw [List.getElem?_eq_none (by simp; omega), h k (by omega)]; rfl

theorem Bz.get {K : Nat} {l : List Int} (h : Bz K l) {i : Nat} {x : Int} (hx : l[i]? = some x) : x.natAbs < 2 ^ K := h x (List.mem_of_getElem? hx)
end Go.Abs

set_option linter.unusedVariables false
set_option linter.unusedSimpArgs false
namespace Go.Abs
open Go Go.Proofs Poly

/-- what raw coefficients say -/
def pol (ps : List RI) : Poly := ⟨co ps, ps.length, fun k hk => co_beyond hk⟩
/-- canonical coefficients -/
noncomputable def cp (f : Poly) : List RI := (cs f).map riz
theorem pol_c (ps : List RI) (k : Nat) : (pol ps).c k = co ps k := rfl
theorem pol_sz (ps : List RI) : (pol ps).sz ≤ ps.length := sz_le fun k hk => co_beyond hk
theorem cp_mz (f : Poly) : cp f = mz f.c f.sz := by unfold cp cs mz; rw [List.map_map]; rfl
@[simp] theorem cp_len (f : Poly) : (cp f).length = f.sz := by simp [cp]
theorem cp_get (f : Poly) {k : Nat} (h : k < f.sz) : (cp f)[k]? = some (riz (f.c k)) := by rw [cp_mz, mz_get h]
@[simp] theorem pol_cp (f : Poly) : pol (cp f) = f := ext_c fun k => by
  rw [pol_c]
  rcases Nat.lt_or_ge k f.sz with h | h
  · rw [co_some (cp_get f h), rval_riz]
  · rw [co_beyond (by simpa using h), above h]
theorem zdeg_sz {f : Poly} {n : Nat} (hn : f.sz ≤ n) : zdeg f.c n = f.sz := by
  rw [zdeg_more hn (fun k h _ => above h)]
  by_cases h : f.sz = 0
  · rw [h]; rfl
  · exact zdeg_stop (by omega) (last (by omega))
theorem rtrim_lenp (ps : List RI) : (rtrim ps).length = (pol ps).sz := by
  rw [rtrim_len]; exact zdeg_sz (f := pol ps) (pol_sz ps)

/-- raw coefficients of bounded size -/
structure W (i : Nat) (ps : List RI) : Prop where
  len : ps.length ≤ 100 * 2 ^ i
  ok : Pok (40 * 4 ^ i) ps
/-- polynomials of bounded size -/
structure Lv (i : Nat) (f : Poly) : Prop where
  len : f.sz ≤ 100 * 2 ^ i
  ok : ∀ k, (f.c k).natAbs < 4294967296 ^ (40 * 4 ^ i)
theorem W.lv {i : Nat} {ps : List RI} (h : W i ps) : Lv i (pol ps) := ⟨Nat.le_trans (pol_sz ps) h.len, fun k => co_abs h.ok k⟩
theorem Lv.w {i : Nat} {f : Poly} (h : Lv i f) : W i (cp f) := ⟨by rw [cp_len]; exact h.len, by rw [cp_mz]; exact mz_ok h.ok⟩
theorem p2 {i j : Nat} (h : i ≤ j) : 2 ^ i ≤ 2 ^ j := Nat.pow_le_pow_right (by omega) h
theorem p4 {i j : Nat} (h : i ≤ j) : 4 ^ i ≤ 4 ^ j := Nat.pow_le_pow_right (by omega) h
theorem lim2 {i : Nat} (h : i ≤ 12) : 2 ^ i ≤ 4096 := Nat.le_trans (p2 h) (by decide)
theorem lim4 {i : Nat} (h : i ≤ 12) : 4 ^ i ≤ 16777216 := Nat.le_trans (p4 h) (by decide)
theorem pB {i j : Nat} (h : i ≤ j) : 4294967296 ^ (40 * 4 ^ i) ≤ 4294967296 ^ (40 * 4 ^ j) := Nat.pow_le_pow_right (by omega) (by have := p4 h; omega)
theorem W.mono {i j : Nat} {ps : List RI} (h : W i ps) (hij : i ≤ j) : W j ps := ⟨Nat.le_trans h.len (by have := p2 hij; omega), pok_mono (by have := p4 hij; omega) h.ok⟩
theorem Lv.mono {i j : Nat} {f : Poly} (h : Lv i f) (hij : i ≤ j) : Lv j f := ⟨Nat.le_trans h.len (by have := p2 hij; omega), fun k => Nat.lt_of_lt_of_le (h.ok k) (pB hij)⟩
theorem Lv.add {i : Nat} {f g : Poly} (hf : Lv i f) (hg : Lv i g) : Lv (i + 1) (f + g) := by
  refine ⟨?_, fun k => ?_⟩
  · have h1 := sz_add f g
    have := hf.len; have := hg.len
    rw [Nat.pow_succ]; omega
  · have := (add_small (hf.ok k) (hg.ok k)).1
    exact Nat.lt_of_lt_of_le this (Nat.pow_le_pow_right (by omega) (by rw [Nat.pow_succ]; have := Nat.pow_pos (n := i) (a := 4) (by omega); omega))
theorem Lv.sub {i : Nat} {f g : Poly} (hf : Lv i f) (hg : Lv i g) : Lv (i + 1) (f - g) := by
  refine ⟨?_, fun k => ?_⟩
  · have h1 := sz_sub f g
    have := hf.len; have := hg.len
    rw [Nat.pow_succ]; omega
  · have := (add_small (hf.ok k) (hg.ok k)).2
    exact Nat.lt_of_lt_of_le this (Nat.pow_le_pow_right (by omega) (by rw [Nat.pow_succ]; have := Nat.pow_pos (n := i) (a := 4) (by omega); omega))
theorem szmul_le (f g : Poly) : (f * g).sz ≤ f.sz + g.sz := sz_le fun k hk => cv_fin (fun _ h => above h) (fun _ h => above h) k (by omega)
theorem Lv.mul {i : Nat} {f g : Poly} (hi : i ≤ 12) (hf : Lv i f) (hg : Lv i g) : Lv (i + 1) (f * g) := by
  have h2 := lim2 hi
  refine ⟨?_, fun k => ?_⟩
  · have h1 := szmul_le f g
    have := hf.len; have := hg.len
    rw [Nat.pow_succ]; omega
  · have e : (f * g).c k = mulC f.c g.c f.sz k := by rw [mul_c, mulC_cv fun a ha => above ha]
    rw [e]
    have h3 := mulC_abs (fun a => Nat.le_of_lt (hf.ok a)) (fun a => Nat.le_of_lt (hg.ok a)) f.sz k
    have h4 := hf.len
    have h5 := mul_bound (i := f.sz) (K := 40 * 4 ^ i) (by omega) (Nat.le_refl _)
    refine Nat.lt_of_lt_of_le (Nat.lt_of_le_of_lt h3 h5) (Nat.pow_le_pow_right (by omega) ?_)
    rw [Nat.pow_succ]; have := Nat.pow_pos (n := i) (a := 4) (by omega); omega
/-- in bits -/
theorem Lv.bits {i : Nat} {f : Poly} (h : Lv i f) (k : Nat) : (f.c k).natAbs < 2 ^ (1280 * 4 ^ i) := by
  have := h.ok k
  rwa [show (4294967296 : Nat) = 2 ^ 32 by rfl, ← Nat.pow_mul, show 32 * (40 * 4 ^ i) = 1280 * 4 ^ i by omega] at this
theorem few_w {a b : Nat} {ps : List RI} (hd : ∀ p ∈ ps, Dg p.2) (h : few a b ps = true) (ha : a ≤ 100) (hb : b ≤ 40) : W 0 ps := by
  have := few_sz hd h
  exact ⟨Nat.le_trans this.1 (by omega), pok_mono (by omega) this.2⟩

noncomputable instance : DecidableEq Poly := fun a b => Classical.propDecidable (a = b)
/-! ### The program's polynomials -/
end Go.Abs

set_option linter.unusedVariables false
set_option linter.unusedSimpArgs false
namespace Go.Abs
open Go Go.Proofs
set_option maxRecDepth 100000

theorem rc_drop0 {ps : List RI} {i : Nat} {p : RI} (h : ps[i]? = some p) : (rc ps).drop (((i : Nat) : Int).toNat * 2) = .bool p.1 :: du p.2 :: rc (ps.drop (i + 1)) := by rw [Int.toNat_natCast]; exact rc_at h

theorem lof_fn (ps : List RI) (hp : ∀ p ∈ ps, Dg p.2 ∧ p.2.length ≤ 2 ^ 34) (hn : ps.length ≤ 2 ^ 39) : Fn Try.prog 40 [.d (rp ps)] [] (.d (zl (cs (pol ps)))) [] := by
  refine fn0 (nt := 27) (res := [.tmp 2]) Try.func40 rfl (by decide) rfl rfl rfl rfl ?_
  intro Cx hP hnt hl
  obtain ⟨f, hf⟩ : ∃ f, f = pol ps := ⟨_, rfl⟩
  have hfc : ∀ k, f.c k = co ps k := fun k => by rw [hf]; rfl
  have hfz : ∀ k, ps.length ≤ k → f.c k = 0 := fun k hk => by rw [hfc]; exact co_beyond hk
  rw [← hf]
  refine awp_sx prog_ok hP hnt [] [] [] [0] (by kernel_rfl) (G := fun K => K (St.mk [(0, V.d (rp ps))] [] 1)) (fun K => by kernel_rfl) ?_
  refine awp_sx prog_ok hP hnt [] [] [] [0, 3] (by kernel_rfl) (G := fun K => K (St.mk [(0, V.d (rp ps)), (3, V.nil)] [] 2)) (fun K => by kernel_rfl) ?_
  refine awp_cut (ι := Unit) (fun _ => ⟨[(3, .own 0 0 ps.length 2)], [(0, some ⟨zcs (tb f.c ps.length), true⟩)], 1⟩) (fun _ => True) ?_ ?_
  · refine awp_sx prog_ok hP hnt [] [] [] [0, 3, 4] (by kernel_rfl) (G := fun K => K (St.mk [(0, V.d (rp ps)), (3, V.nil), (4, V.d (D.int IntKind.i64 (0 : Int)))] [] 3)) (fun K => by kernel_rfl) ?_
    refine awp_block ?_
    refine awp_loop (ι := Nat) (fun i => ⟨[(0, .d (rp ps)), (3, .own 0 0 i 2), (4, .d (.int .i64 i))], [(0, some ⟨zcs (tb f.c i), true⟩)], 1⟩)
      (fun i => i ≤ ps.length) (fun i => ps.length - i) 0 [] (by simp) ?_ ?_
    · (constructor <;> simp [hl, envOk, memOk, conv, St.get, St.blk, zcs, fm, tb])
    intro i hi
    refine awp_seq_k fun K hK => ?_
    refine awp_sx prog_ok hP hnt [] [] [] [0, 3, 4, 8] (by kernel_rfl) (G := fun K => K (St.mk [(0, V.d (rp ps)), (3, V.own 0 0 i 2), (4, V.d (D.int IntKind.i64 (↑i : Int))), (8, V.d (D.bool (decide ((↑i : Int) < (↑ps.length : Int)))))] [(0, some (Blk.mk (zcs (tb f.c i)) true))] 5)) (fun K => by kernel_rfl) ?_
    refine awp_cond rfl (fun e => awp_skip (hK _ ?_)) (fun e => awp_exit ⟨(), [(0, 0)], trivial, ?_⟩)
    · simp at e
      obtain ⟨p, hp1⟩ := get_ex (l := ps) (i := i) e
      have hp2 := hp p (List.mem_of_getElem? hp1)
      have hfx : ival p.1 p.2 = f.c i := by rw [hfc, co_some hp1]; rfl
      refine awp_seq_k fun K2 hK2 => ?_
      refine awp_block ?_
      have h3 := zof_fn p.1 p.2 hp2.1 hp2.2
      rw [hfx] at h3
      refine awp_x prog_ok hP hnt [] [.val (.agg (zc (f.c i)))] [some [.bool p.1], some [du p.2]] [0, 3, 4] (by kernel_rfl) (G := fun K => ((0 : Int) ≤ (↑i : Int) ∧ (↑i : Int) < (↑ps.length : Int) ∧ ((↑i : Int).toNat + 1) * 2 ≤ (rc ps).length) ∧ (List.drop 0 (List.drop ((↑i : Int).toNat * 2) (rc ps)))[0]? = some (D.bool p.fst) ∧ ((0 : Int) ≤ (↑i : Int) ∧ (↑i : Int) < (↑ps.length : Int) ∧ ((↑i : Int).toNat + 1) * 2 ≤ (rc ps).length) ∧ (List.drop 1 (List.drop ((↑i : Int).toNat * 2) (rc ps)))[0]? = some (du p.snd) ∧ Fn Try.prog 159 [V.d (D.bool p.fst), V.d (du p.snd)] [] (V.agg [D.int IntKind.i64 (f.c i).sign, ib (db 2 (f.c i).natAbs)]) [] ∧ 2 = 2 ∧ ((zcs (tb f.c i)).length = i * 2 ∧ (i + 1) * 32 ≤ 2 ^ 47) ∧ K (St.mk [(0, V.d (rp ps)), (3, V.own 18 0 (i + 1) 2), (4, V.d (D.int IntKind.i64 (↑i : Int)))] [(0, none), (18, some (Blk.mk (zcs (tb f.c i) ++ setCells (zeros 1 (TI.mk (Kind.struct [(0, 1), (1, 1)]) 2 32 [D.int IntKind.i64 (0 : Int), D.lst 0 []]).zero) 0 (zc (f.c i))) true))] 20)) (fun K => by kernel_rfl) ?_
      have happ := zcs_app (tb f.c i) (f.c i)
      rw [tb_snoc] at happ
      refine ⟨⟨by omega, by omega, by simp; omega⟩, by rw [rc_drop0 hp1]; rfl, ⟨by omega, by omega, by simp; omega⟩, by rw [rc_drop0 hp1]; rfl, h3, rfl, ⟨by simp, by omega⟩, hK2 _ ?_⟩
      refine awp_x prog_ok hP hnt [(10, .int .i64 (i + 1 : Nat))] [] [] [0, 3, 4] (by kernel_rfl) (G := fun K => IntKind.i64.wrap ((↑i : Int) + (1 : Int)) = (↑(i + 1) : Int) ∧ K (St.mk [(0, V.d (rp ps)), (3, V.own 18 0 (i + 1) 2), (4, V.d (D.int IntKind.i64 (↑(i + 1) : Int)))] [(0, none), (18, some (Blk.mk (zcs (tb f.c i) ++ setCells (zeros 1 (TI.mk (Kind.struct [(0, 1), (1, 1)]) 2 32 [D.int IntKind.i64 (0 : Int), D.lst 0 []]).zero) 0 (zc (f.c i))) true))] 23)) (fun K => by kernel_rfl) ?_
      refine ⟨by rw [w64] <;> omega, i + 1, [(0, 18)], ⟨by omega, by omega⟩, ?_⟩
      (constructor <;> simp [hl, envOk, memOk, conv, St.get, St.blk, ← happ, setCells, zeros, zc])
    · simp at e
      have : i = ps.length := by omega
      subst this
      (constructor <;> simp [hl, envOk, memOk, conv, St.get, St.blk])
  intro _ _
  have ht := ztrim_fn (tb f.c ps.length) (by simp; omega)
  rw [polL_tb hfz] at ht
  refine awp_sx prog_ok hP hnt [] [.val (.d (zl (cs f)))] [] [2] (by kernel_rfl) (G := fun K => Fn Try.prog 55 [V.d (D.lst ps.length (List.take (ps.length * 2) (List.drop 0 (zcs (tb f.c ps.length)))))] [] (V.d (zl (cs f))) [] ∧ K (St.mk [(2, V.d (zl (cs f)))] [(0, some (Blk.mk (zcs (tb f.c ps.length)) false))] 4)) (fun K => by kernel_rfl) ?_
  refine ⟨?_, awp_ret ⟨.inl rfl, retD rfl⟩⟩
  have := own_fm zc_len (l := tb f.c ps.length) (n := ps.length) (by simp)
  rw [this]
  exact ht

theorem rtrim_cp (ps : List RI) (k : Nat) : (rtrim ps)[k]? = if k < (pol ps).sz then ps[k]? else none := by
  unfold rtrim
  rw [List.getElem?_take, ← rtrim_len, rtrim_lenp]
end Go.Abs

set_option linter.unusedVariables false
set_option linter.unusedSimpArgs false
namespace Go.Abs
open Go Go.Proofs
set_option maxRecDepth 100000

namespace Poly
noncomputable def ppow (f : Poly) : Nat → Poly
  | 0 => 1
  | n + 1 => ppow f n * f
@[simp] theorem ev_ppow (f : Poly) (x : Int) : ∀ n, (ppow f n).ev x = f.ev x ^ n
  | 0 => by simp [ppow]
  | n + 1 => by simp [ppow, ev_ppow f x n, Int.pow_succ]
end Poly
end Go.Abs

set_option linter.unusedVariables false
set_option linter.unusedSimpArgs false
namespace Go.Abs
open Go
variable {P : Program}

theorem RepV.own_ren {H : Array Obj} {ok : Nat → Prop} {β β' : Nat → Option Nat} {b b' o n sz : Nat} {v : Value} (e : β b = β' b') (h : RepV H ok β (.own b o n sz) v) : RepV H ok β' (.own b' o n sz) v := by
  simp only [RepV] at h ⊢
  obtain ⟨A, c, h1, h2, h3⟩ := h
  refine ⟨A, c, h1, h2, ?_⟩
  rcases h3 with h3 | ⟨B, arr, T, g1, g2, g3, g4⟩
  · exact .inl h3
  · exact .inr ⟨B, arr, T, g1, by rw [← e]; exact g2, g3, g4⟩

/-- a made block by another number -/
theorem Fn.out_ren {f : Nat} {args : List V} {o n sz : Nat} {k : Blk} (h : Fn P f args [] (.own 0 o n sz) [(0, k)]) (b : Nat) : Fn P f args [] (.own b o n sz) [(b, k)] := by
  refine ⟨h.1, fun w ok β vs hok hs hr hl hi => ?_⟩
  refine (h.2 w ok β vs hok hs hr (by simp) (by simp)).mono ?_
  rintro e w' ⟨v, ok', β', rfl, hc⟩
  refine ⟨v, ok', fun x => if x = b then β' 0 else none, rfl, hc.os, hc.tape, hc.output, hc.size, hc.keep, hc.shape, hc.lo, hc.hi, hc.lt, RepV.own_ren (by simp) hc.res, by simp, fun x kx hx => ?_, fun x y kx ky B hx hy _ _ => ?_⟩
  · simp at hx
    obtain ⟨rfl, rfl⟩ := hx
    simpa using hc.made 0 kx (by simp)
  · simp at hx hy
    rw [hx.1, hy.1]
/-- a lent block by another number -/
theorem Fn.lend_ren {f : Nat} {o n o' n' sz : Nat} {k k' : Blk} (h : Fn P f [.own 0 o n sz] [(0, k)] (.own 0 o' n' sz) [(0, k')]) (b : Nat) : Fn P f [.own b o n sz] [(b, k)] (.own b o' n' sz) [(b, k')] := by
  refine ⟨h.1, fun w ok β vs hok hs hr hl hi => ?_⟩
  have hr' : RepVs w.heap ok (fun x => if x = 0 then β b else none) [.own 0 o n sz] vs 0 := by
    simp only [RepVs] at hr ⊢
    obtain ⟨⟨u, h1, h2⟩, h3⟩ := hr
    exact ⟨⟨u, h1, RepV.own_ren (by simp) h2⟩, h3⟩
  refine (h.2 w ok (fun x => if x = 0 then β b else none) vs hok hs hr' (fun x kx hx => ?_) (fun x y kx ky B hx hy _ _ => ?_)).mono ?_
  · simp at hx
    obtain ⟨rfl, rfl⟩ := hx
    simpa using hl _ kx (by simp)
  · simp at hx hy
    rw [hx.1, hy.1]
  rintro e w' ⟨v, ok', β', rfl, hc⟩
  refine ⟨v, ok', fun x => if x = b then β' 0 else none, rfl, hc.os, hc.tape, hc.output, hc.size, fun j hj hn => hc.keep j hj fun x kx hx => ?_, hc.shape, hc.lo, fun j hj => ?_, hc.lt, RepV.own_ren (by simp) hc.res, fun x kx hx => ?_, fun x kx hx => ?_, fun x y kx ky B hx hy _ _ => ?_⟩
  · simp at hx
    obtain ⟨rfl, rfl⟩ := hx
    simpa using hn _ kx (by simp)
  · rcases hc.hi j hj with h1 | ⟨x, kx, hx, h1⟩ | h1
    · exact .inl h1
    · simp at hx
      obtain ⟨rfl, rfl⟩ := hx
      exact .inr (.inl ⟨b, kx, by simp, by simpa using h1⟩)
    · exact .inr (.inr h1)
  · simp at hx
    obtain ⟨rfl, rfl⟩ := hx
    simpa using hc.same 0 kx (by simp)
  · simp at hx
    obtain ⟨rfl, rfl⟩ := hx
    rcases hc.made 0 kx (by simp) with h1 | ⟨B, h1, h2, h3⟩
    · exact .inl (by simpa using h1)
    · refine .inr ⟨B, by simpa using h1, h2, ?_⟩
      rcases h3 with ⟨x, kx, hx, h3⟩ | h3
      · simp at hx
        obtain ⟨rfl, rfl⟩ := hx
        exact .inl ⟨_, _, List.mem_singleton.2 rfl, by simpa using h3⟩
      · exact .inr h3
  · simp at hx hy
    rw [hx.1, hy.1]
end Go.Abs

set_option linter.unusedVariables false
set_option linter.unusedSimpArgs false
namespace Go.Abs
open Go Go.Proofs
set_option maxRecDepth 100000

theorem fn0o {f : Nat} {fn : Func} {c : Code} {args : List V} {r : V} {out : List (Nat × Blk)} {res : List ResultVar} {nt : Nat}
    (hf : Try.prog.funcs[f]? = some fn) (hb : fn.body = some c) (hn : (fn.name == "runtime.NumGoroutine") = false) (hnt : fn.ntmps = nt) (hle : Nat.ble args.length nt = true) (hres : fn.results = res.toArray) (hrefs : V.refsL args = [])
    (h : ∀ C : Ctx, C.P = Try.prog → C.nt = nt → C.lids = [] → AWP C c ⟨envOf 0 args, [], 0⟩ (fun e s' => (e = .ret ∨ e = .normal) ∧ RetOk tab res r out s')) : Fn Try.prog f args [] r out :=
  fn_intro prog_ok hf hb hn (by rw [hnt]; exact Nat.le_of_ble_eq_true hle) hres (by simp) (by rw [hrefs]; simp) (fun C h1 h2 h3 => h C h1 (by rw [h2, hnt]) h3)

theorem trimW {i : Nat} {ps : List RI} (hi : i ≤ 12) (hp : W i ps) : Fn Try.prog 161 [.d (rp ps)] [] (.d (rp (rtrim ps))) [] :=
  utrim_fn ps (by have := hp.len; have := lim2 hi; omega) (pok_mono (by have := lim4 hi; omega) hp.ok)
end Go.Abs

set_option linter.unusedVariables false
set_option linter.unusedSimpArgs false
namespace Go.Abs
open Go Go.Proofs
set_option maxRecDepth 100000

theorem W.dg {i : Nat} {ps : List RI} (hi : i ≤ 12) (h : W i ps) : ∀ p ∈ ps, Dg p.2 ∧ p.2.length ≤ 2 ^ 34 := fun p hp => ⟨(h.ok p hp).1, by have := (h.ok p hp).2; have := lim4 hi; omega⟩
theorem ofL {i : Nat} {ps : List RI} (hi : i ≤ 12) (h : W i ps) : Fn Try.prog 40 [.d (rp ps)] [] (.d (zl (cs (pol ps)))) [] :=
  lof_fn ps (h.dg hi) (by have := h.len; have := lim2 hi; omega)
end Go.Abs

set_option linter.unusedVariables false
set_option linter.unusedSimpArgs false
namespace Go.Abs
open Go Go.Proofs
set_option maxRecDepth 100000

theorem pow32 {K E : Nat} (h : K ≤ 32 * E) : 2 ^ K ≤ 4294967296 ^ E := by
  rw [show (4294967296 : Nat) = 2 ^ 32 by rfl, ← Nat.pow_mul]
  exact Nat.pow_le_pow_right (by omega) h
theorem zisT (z : Int) {K : Nat} (hK : K ≤ 2 ^ 36) (hz : z.natAbs < 2 ^ K) : Fn Try.prog 69 [.d (.bool (riz z).1), .d (du (riz z).2), .agg (zc z)] [] (.d (.bool true)) [] := by
  have hd : (riz z).2.length ≤ 2 ^ 40 := by
    exact Nat.le_trans (dig_len (Nat.lt_of_lt_of_le hz (pow32 (E := K) (by omega)))) (by omega)
  have := zis_fn (riz z).1 (riz z).2 z hd (by omega : K ≤ 2 ^ 40) hz
  rwa [decide_eq_true (by rfl)] at this

end Go.Abs

set_option linter.unusedVariables false
set_option linter.unusedSimpArgs false
namespace Go.Abs
open Go Go.Proofs Poly

/-- at most n coefficients of at most K bits -/
structure Bd (n K : Nat) (f : Poly) : Prop where
  len : f.sz ≤ n
  ok : ∀ k, (f.c k).natAbs < 2 ^ K
theorem pw {a b : Nat} (h : a ≤ b) : 2 ^ a ≤ 2 ^ b := Nat.pow_le_pow_right (by omega) h
theorem Bd.mono {n m K L : Nat} {f : Poly} (h : Bd n K f) (hn : n ≤ m) (hK : K ≤ L) : Bd m L f := ⟨Nat.le_trans h.len hn, fun k => Nat.lt_of_lt_of_le (h.ok k) (pw hK)⟩
theorem Bd.lv {n K i : Nat} {f : Poly} (h : Bd n K f) (hn : n ≤ 100 * 2 ^ i) (hK : K ≤ 1280 * 4 ^ i) : Lv i f := ⟨Nat.le_trans h.len hn, fun k => by
  rw [show (4294967296 : Nat) = 2 ^ 32 by rfl, ← Nat.pow_mul, show 32 * (40 * 4 ^ i) = 1280 * 4 ^ i by omega]
  exact Nat.lt_of_lt_of_le (h.ok k) (pw hK)⟩
theorem Bd.add {n m K L : Nat} {f g : Poly} (hf : Bd n K f) (hg : Bd m L g) : Bd (max n m) (max K L + 1) (f + g) := by
  refine ⟨Nat.le_trans (sz_add _ _) (by have := hf.len; have := hg.len; omega), fun k => ?_⟩
  have h1 := (hf.mono (Nat.le_refl _) (Nat.le_max_left K L)).ok k
  have h2 := (hg.mono (Nat.le_refl _) (Nat.le_max_right K L)).ok k
  rw [add_c, Nat.pow_succ]
  have := Int.natAbs_add_le (f.c k) (g.c k)
  omega
theorem Bd.sub {n m K L : Nat} {f g : Poly} (hf : Bd n K f) (hg : Bd m L g) : Bd (max n m) (max K L + 1) (f - g) := by
  refine ⟨Nat.le_trans (sz_sub _ _) (by have := hf.len; have := hg.len; omega), fun k => ?_⟩
  have h1 := (hf.mono (Nat.le_refl _) (Nat.le_max_left K L)).ok k
  have h2 := (hg.mono (Nat.le_refl _) (Nat.le_max_right K L)).ok k
  rw [sub_c, Nat.pow_succ]
  have := Int.natAbs_sub_le (f.c k) (g.c k)
  omega
theorem mul_lt2 {x y K L : Nat} (hx : x < 2 ^ K) (hy : y < 2 ^ L) : x * y < 2 ^ (K + L) := by
  rw [Nat.pow_add]
  exact Nat.lt_of_le_of_lt (Nat.mul_le_mul_left _ (Nat.le_of_lt hy)) (Nat.mul_lt_mul_of_pos_right hx (Nat.pow_pos (by omega)))
theorem cv_bound {c d : Nat → Int} {A B : Nat} (hc : ∀ k, (c k).natAbs ≤ A) (hd : ∀ k, (d k).natAbs ≤ B) {n : Nat} (hz : ∀ k, n ≤ k → c k = 0) (k : Nat) : (cv c d k).natAbs ≤ n * (A * B) := by
  induction k generalizing c n with
  | zero =>
    rw [cv, Int.natAbs_mul]
    cases n with
    | zero => rw [hz 0 (by omega)]; simp
    | succ n =>
      have := Nat.mul_le_mul (hc 0) (hd 0)
      rw [Nat.succ_mul]; omega
  | succ k ih =>
    rw [cv]
    cases n with
    | zero => rw [hz 0 (by omega), cvz (fun a => hz _ (by omega))]; simp
    | succ n =>
      have h1 := ih (c := fun i => c (i + 1)) (n := n) (fun j => hc _) (fun j hj => hz _ (by omega))
      have h2 : (c 0 * d (k + 1)).natAbs ≤ A * B := by rw [Int.natAbs_mul]; exact Nat.mul_le_mul (hc 0) (hd _)
      have := Int.natAbs_add_le (c 0 * d (k + 1)) (cv (fun i => c (i + 1)) d k)
      rw [Nat.succ_mul]; omega
theorem Bd.mul {n m K L s : Nat} {f g : Poly} (hf : Bd n K f) (hg : Bd m L g) (hs : n < 2 ^ s) : Bd (n + m) (K + L + s) (f * g) := by
  refine ⟨Nat.le_trans (szmul_le _ _) (Nat.add_le_add hf.len hg.len), fun k => ?_⟩
  rw [mul_c]
  have h1 := cv_bound (fun k => Nat.le_of_lt (hf.ok k)) (fun k => Nat.le_of_lt (hg.ok k)) (n := f.sz) (fun k hk => above hk) k
  have h2 : f.sz * (2 ^ K * 2 ^ L) ≤ n * (2 ^ K * 2 ^ L) := Nat.mul_le_mul_right _ hf.len
  have h3 : n * (2 ^ K * 2 ^ L) < 2 ^ s * (2 ^ K * 2 ^ L) := Nat.mul_lt_mul_of_pos_right hs (Nat.mul_pos (Nat.pow_pos (by omega)) (Nat.pow_pos (by omega)))
  rw [Nat.pow_add, Nat.pow_add, Nat.mul_comm (2 ^ K * 2 ^ L)]
  omega
theorem Bd.zero {n K : Nat} : Bd n K 0 := ⟨by rw [sz_zero]; omega, fun k => by rw [zero_c]; exact Nat.pow_pos (by omega)⟩
theorem Bd.one {n K : Nat} (hn : 1 ≤ n) (hK : 1 ≤ K) : Bd n K 1 := ⟨by rw [show (1 : Poly) = C 1 from rfl, sz_C (by decide)]; exact hn, fun k => by
  show (if k = 0 then (1 : Int) else 0).natAbs < _
  have := pw hK
  split
  · simp at this ⊢; omega
  · exact Nat.pow_pos (by omega)⟩

theorem ev_polL_nil (x : Int) : (polL []).ev x = 0 := by rw [polL_nil]; simp
theorem ev_polL_cons (a : Int) (l : List Int) (x : Int) : (polL (a :: l)).ev x = a + x * (polL l).ev x := by
  rw [ev_eq (f := polL (a :: l)) (n := l.length + 1) (fun k hk => by rw [polL_c, List.getD_eq_getElem?_getD, List.getElem?_eq_none (by simpa using hk)]; rfl),
    ev_eq (f := polL l) (n := l.length) (fun k hk => by rw [polL_c, List.getD_eq_getElem?_getD, List.getElem?_eq_none hk]; rfl), evn]
  rfl
theorem ev_cs (f : Poly) (x : Int) : (polL (cs f)).ev x = f.ev x := by rw [polL_cs]
/-- the composition -/
noncomputable def compL (g : Poly) : List Int → Poly
  | [] => 0
  | a :: l => C a + g * compL g l
noncomputable def comp (f g : Poly) : Poly := compL g (cs f)
@[simp] theorem ev_compL (g : Poly) (x : Int) : ∀ l, (compL g l).ev x = (polL l).ev (g.ev x)
  | [] => by rw [ev_polL_nil]; simp [compL]
  | a :: l => by rw [ev_polL_cons]; simp [compL, ev_compL g x l]
@[simp] theorem ev_comp (f g : Poly) (x : Int) : (comp f g).ev x = f.ev (g.ev x) := by rw [comp, ev_compL, ev_cs]
/-- scaled argument -/
def strP (f : Poly) (c : Int) : Poly := ⟨fun k => f.c k * c ^ k, f.sz, fun k hk => by rw [above hk]; simp⟩
theorem strP_c (f : Poly) (c : Int) (k : Nat) : (strP f c).c k = f.c k * c ^ k := rfl
theorem evn_str {x c : Int} : ∀ (n : Nat) (F : Nat → Int) (d : Int), evn (fun k => F k * (d * c ^ k)) n x = d * evn F n (c * x)
  | 0, F, d => by simp [evn]
  | n + 1, F, d => by
    have h := evn_str (x := x) (c := c) n (fun k => F (k + 1)) (d * c)
    rw [evn, evn]
    have e : (fun k => F (k + 1) * (d * c ^ (k + 1))) = fun k => F (k + 1) * (d * c * c ^ k) := funext fun k => by rw [Int.pow_succ]; grind
    rw [e, h]; simp; grind
@[simp] theorem ev_strP (f : Poly) (c x : Int) : (strP f c).ev x = f.ev (c * x) := by
  rw [ev_eq (f := strP f c) (n := f.sz) (fun k hk => by rw [strP_c, above hk]; simp), ev_eq (f := f) (n := f.sz) (fun k hk => above hk)]
  have := evn_str (x := x) (c := c) f.sz f.c 1
  rw [Int.one_mul] at this
  rw [← this]
  congr 1
  exact funext fun k => by rw [strP_c, Int.one_mul]
/-- canonical coefficients of a list -/
def ro (l : List Int) : List RI := l.map riz
@[simp] theorem ro_len (l : List Int) : (ro l).length = l.length := by simp [ro]
theorem getD_some {l : List Int} {i : Nat} (h : i < l.length) : l[i]? = some (l.getD i 0) := by simp [h]
theorem Bz.set {K : Nat} {l : List Int} (h : Bz K l) {i : Nat} {x : Int} (hx : x.natAbs < 2 ^ K) : Bz K (l.set i x) := fun z hz => by
  rcases List.mem_or_eq_of_mem_set hz with h1 | h1
  · exact h z h1
  · rw [h1]; exact hx
theorem Bz.mono {K L : Nat} {l : List Int} (h : Bz K l) (hK : K ≤ L) : Bz L l := fun z hz => Nat.lt_of_lt_of_le (h z hz) (pw hK)
theorem riz_bits {z : Int} {K : Nat} (h : z.natAbs < 2 ^ K) (hK : K ≤ 2 ^ 40) : Dg (riz z).2 ∧ (riz z).2.length ≤ 2 ^ 36 :=
  ⟨dig_lt _, Nat.le_trans (dig_len (Nat.lt_of_lt_of_le h (pow32 (E := K / 32 + 1) (by omega)))) (by omega)⟩
end Go.Abs

set_option linter.unusedVariables false
set_option linter.unusedSimpArgs false
namespace Go.Abs
open Go Go.Proofs Poly
set_option maxRecDepth 100000

theorem mulI {x y : Int} {K L : Nat} (hx : x.natAbs < 2 ^ K) (hy : y.natAbs < 2 ^ L) (hK : K ≤ 2 ^ 40) (hL : L ≤ 2 ^ 40) : Fn Try.prog 123 [.agg (ic (riz x).1 (riz x).2), .agg (ic (riz y).1 (riz y).2)] [] (.agg (iz (x * y))) [] := by
  have h1 := riz_bits hx hK
  have h2 := riz_bits hy hL
  have := imul_fn (riz x).1 (riz y).1 (riz x).2 (riz y).2 (by omega) (by omega) h1.1 h2.1
  rwa [show ival (riz x).1 (riz x).2 = x from rval_riz _, show ival (riz y).1 (riz y).2 = y from rval_riz _] at this
theorem addI {x y : Int} {K L : Nat} (hx : x.natAbs < 2 ^ K) (hy : y.natAbs < 2 ^ L) (hK : K ≤ 2 ^ 40) (hL : L ≤ 2 ^ 40) : Fn Try.prog 96 [.agg (ic (riz x).1 (riz x).2), .agg (ic (riz y).1 (riz y).2)] [] (.agg (iz (x + y))) [] := by
  have h1 := riz_bits hx hK
  have h2 := riz_bits hy hL
  have := iadd_fn (riz x).1 (riz y).1 (riz x).2 (riz y).2 (by omega) (by omega) h1.1 h2.1
  rwa [show ival (riz x).1 (riz x).2 = x from rval_riz _, show ival (riz y).1 (riz y).2 = y from rval_riz _] at this
theorem mulI3 {s : Bool} {l : List Nat} {y : Int} {L : Nat} (hl : Dg l) (hl2 : l.length ≤ 2 ^ 36) (hy : y.natAbs < 2 ^ L) (hL : L ≤ 2 ^ 40) : Fn Try.prog 123 [.agg (ic (riz y).1 (riz y).2), .agg (ic s l)] [] (.agg (iz (y * ival s l))) [] := by
  have h2 := riz_bits hy hL
  have := imul_fn (riz y).1 s (riz y).2 l (by omega) (by omega) h2.1 hl
  rwa [show ival (riz y).1 (riz y).2 = y from rval_riz _] at this

end Go.Abs

set_option linter.unusedVariables false
set_option linter.unusedSimpArgs false
namespace Go.Abs
open Go Go.Proofs Poly
set_option maxRecDepth 100000

end Go.Abs

set_option linter.unusedVariables false
set_option linter.unusedSimpArgs false
namespace Go.Abs
open Go Go.Proofs Poly
set_option maxRecDepth 100000

theorem Bd.w {n K i : Nat} {f : Poly} (h : Bd n K f) (hn : n ≤ 100 * 2 ^ i) (hK : K ≤ 1280 * 4 ^ i) : W i (cp f) := (h.lv hn hK).w

end Go.Abs

set_option linter.unusedVariables false
set_option linter.unusedSimpArgs false
namespace Go.Abs
open Go Go.Proofs Poly
set_option maxRecDepth 100000

theorem few_bd {a b : Nat} {ps : List RI} (hd : ∀ p ∈ ps, Dg p.2) (h : few a b ps = true) : Bd a (32 * b) (pol ps) := by
  have := few_sz hd h
  refine ⟨Nat.le_trans (pol_sz ps) this.1, fun k => ?_⟩
  have h1 := co_abs this.2 k
  rwa [show (4294967296 : Nat) = 2 ^ 32 by rfl, ← Nat.pow_mul] at h1
theorem val_bits {s : Bool} {l : List Nat} {b : Nat} (hd : Dg l) (h : l.length ≤ b) : (ival s l).natAbs < 2 ^ (32 * b) := by
  unfold ival; rw [sgn_abs]
  have h1 := val_lt hd
  rw [show (4294967296 : Nat) = 2 ^ 32 by rfl, ← Nat.pow_mul] at h1
  exact Nat.lt_of_lt_of_le h1 (pw (by omega))

end Go.Abs

set_option linter.unusedVariables false
set_option linter.unusedSimpArgs false
namespace Go.Abs
open Go Go.Proofs
set_option maxRecDepth 100000

/-- the number of bits -/
def blen (n : Nat) : Nat := if n = 0 then 0 else Nat.log2 n + 1
theorem blen_lt (n : Nat) : n < 2 ^ blen n := by
  unfold blen
  by_cases h : n = 0
  · simp [h]
  · rw [if_neg h]; exact Nat.lt_log2_self
theorem blen_le {n : Nat} (h : n ≠ 0) : 2 ^ (blen n - 1) ≤ n := by
  unfold blen
  rw [if_neg h]; exact Nat.log2_self_le h
theorem blen_iff {n k : Nat} : blen n ≤ k ↔ n < 2 ^ k := by
  constructor
  · intro h; exact Nat.lt_of_lt_of_le (blen_lt n) (Nat.pow_le_pow_right (by omega) h)
  · intro h
    by_cases h0 : n = 0
    · subst h0; simp [blen]
    · have h1 := blen_le h0
      have h2 : 2 ^ (blen n - 1) < 2 ^ k := Nat.lt_of_le_of_lt h1 h
      have := (Nat.pow_lt_pow_iff_right (a := 2) (by omega)).1 h2
      omega
theorem blen_eq {n k : Nat} (h1 : n < 2 ^ (k + 1)) (h2 : 2 ^ k ≤ n) : blen n = k + 1 := by
  have a := (blen_iff (n := n) (k := k + 1)).2 h1
  have b : ¬ blen n ≤ k := fun h => by have := blen_iff.1 h; omega
  omega
theorem blen_pos {n : Nat} (h : n ≠ 0) : 0 < blen n := by unfold blen; rw [if_neg h]; omega
theorem blen_shift {n k : Nat} (h : 2 ^ k ≤ n) : blen n = k + blen (n / 2 ^ k) := by
  have hp : 0 < 2 ^ k := Nat.pow_pos (by omega)
  have h0 : n / 2 ^ k ≠ 0 := by have := (Nat.le_div_iff_mul_le hp (x := 1) (y := n)).2 (by omega); omega
  have hb := blen_pos h0
  have h1 := blen_lt (n / 2 ^ k)
  have h2 := blen_le h0
  have := blen_eq (n := n) (k := k + blen (n / 2 ^ k) - 1) (by
    rw [show k + blen (n / 2 ^ k) - 1 + 1 = blen (n / 2 ^ k) + k by omega, Nat.pow_add]
    exact (Nat.div_lt_iff_lt_mul hp).1 h1) (by
    rw [show k + blen (n / 2 ^ k) - 1 = blen (n / 2 ^ k) - 1 + k by omega, Nat.pow_add]
    exact (Nat.le_div_iff_mul_le hp).1 h2)
  omega

theorem fdivN (a k : Nat) : Int.fdiv (a : Int) (2 ^ k) = (a / 2 ^ k : Nat) := by
  rw [Int.fdiv_eq_ediv_of_nonneg _ (Int.pow_nonneg (by decide))]
  simp

def len8 : ByteArray := ⟨#[0, 1, 2, 2, 3, 3, 3, 3, 4, 4, 4, 4, 4, 4, 4, 4, 5, 5, 5, 5, 5, 5, 5, 5, 5, 5, 5, 5, 5, 5, 5, 5, 6, 6, 6, 6, 6, 6, 6, 6, 6, 6, 6, 6, 6, 6, 6, 6, 6, 6, 6, 6, 6, 6, 6, 6, 6, 6, 6, 6, 6, 6, 6, 6, 7, 7, 7, 7, 7, 7, 7, 7, 7, 7, 7, 7, 7, 7, 7, 7, 7, 7, 7, 7, 7, 7, 7, 7, 7, 7, 7, 7, 7, 7, 7, 7, 7, 7, 7, 7, 7, 7, 7, 7, 7, 7, 7, 7, 7, 7, 7, 7, 7, 7, 7, 7, 7, 7, 7, 7, 7, 7, 7, 7, 7, 7, 7, 7, 8, 8, 8, 8, 8, 8, 8, 8, 8, 8, 8, 8, 8, 8, 8, 8, 8, 8, 8, 8, 8, 8, 8, 8, 8, 8, 8, 8, 8, 8, 8, 8, 8, 8, 8, 8, 8, 8, 8, 8, 8, 8, 8, 8, 8, 8, 8, 8, 8, 8, 8, 8, 8, 8, 8, 8, 8, 8, 8, 8, 8, 8, 8, 8, 8, 8, 8, 8, 8, 8, 8, 8, 8, 8, 8, 8, 8, 8, 8, 8, 8, 8, 8, 8, 8, 8, 8, 8, 8, 8, 8, 8, 8, 8, 8, 8, 8, 8, 8, 8, 8, 8, 8, 8, 8, 8, 8, 8, 8, 8, 8, 8, 8, 8, 8, 8, 8, 8, 8, 8, 8, 8, 8, 8, 8, 8, 8, 8]⟩
theorem len8_eq : ∀ z, z < 256 → len8[z]? = some (UInt8.ofNat (blen z)) := by decide +kernel

theorem len32_fn (x : Nat) (hx : x < 4294967296) : Fn Try.prog 246 [.d (.int .u32 x)] [] (.d (.int .i64 (blen x))) [] := by
  refine fn0 (nt := 19) (res := [.tmp 2]) Try.func246 rfl (by decide) rfl rfl rfl rfl ?_
  intro Cx hP hnt hl
  have h32 : blen x ≤ 32 := blen_iff.2 hx
  refine awp_sx prog_ok hP hnt [] [] [] [0, 2] (by kernel_rfl) (G := fun K => K (St.mk [(0, V.d (D.int IntKind.u32 (↑x : Int))), (2, V.d (D.int IntKind.i64 (0 : Int)))] [] 1)) (fun K => by kernel_rfl) ?_
  refine awp_cut (ι := Nat) (fun y => ⟨[(0, .d (.int .u32 y)), (2, .d (.int .i64 (blen x - blen y : Nat)))], [], 8⟩) (fun y => y < 65536 ∧ blen y ≤ blen x) ?_ ?_
  · refine awp_sx prog_ok hP hnt [] [] [] [0, 2, 4] (by kernel_rfl) (G := fun K => K (St.mk [(0, V.d (D.int IntKind.u32 (↑x : Int))), (2, V.d (D.int IntKind.i64 (0 : Int))), (4, V.d (D.bool (decide ((↑x : Int) ≥ (65536 : Int)))))] [] 3)) (fun K => by kernel_rfl) ?_
    refine awp_cond rfl (fun e => ?_) (fun e => awp_skip ⟨x, [], ?_, ?_⟩)
    · simp at e
      have hs := blen_shift (n := x) (k := 16) (by omega)
      rw [show x / 2 ^ 16 = x / 65536 from rfl] at hs
      have hw : (x : Int).fdiv (2 ^ 16) = (x / 65536 : Nat) := fdivN x 16
      refine awp_sx prog_ok hP hnt [(6, .int .u32 (x / 65536 : Nat))] [] [] [0] (by kernel_rfl) (G := fun K => (0 : Int) ≤ (16 : Int) ∧ (↑x : Int).fdiv ((2 : Int) ^ min (Int.toNat (16 : Int)) IntKind.u32.bits) = (↑(x / 65536) : Int) ∧ K (St.mk [(0, V.d (D.int IntKind.u32 (↑(x / 65536) : Int)))] [] 6)) (fun K => by kernel_rfl) ?_
      refine ⟨by omega, hw, ?_⟩
      refine awp_x prog_ok hP hnt [] [] [] [0, 2] (by kernel_rfl) (G := fun K => K (St.mk [(0, V.d (D.int IntKind.u32 (↑(x / 65536) : Int))), (2, V.d (D.int IntKind.i64 (16 : Int)))] [] 7)) (fun K => by kernel_rfl) ?_
      refine ⟨x / 65536, [], ⟨by omega, by omega⟩, ?_⟩
      (constructor <;> simp [hl, envOk, memOk, conv, St.get, St.blk])
      omega
    · simp at e
      exact ⟨by omega, Nat.le_refl _⟩
    · (constructor <;> simp [hl, envOk, memOk, conv, St.get, St.blk])
  intro y ⟨hy, hb⟩
  refine awp_cut (ι := Nat) (fun z => ⟨[(0, .d (.int .u32 z)), (2, .d (.int .i64 (blen x - blen z : Nat)))], [], 12⟩) (fun z => z < 256 ∧ blen z ≤ blen x) ?_ ?_
  · refine awp_sx prog_ok hP hnt [] [] [] [0, 2, 8] (by kernel_rfl) (G := fun K => K (St.mk [(0, V.d (D.int IntKind.u32 (↑y : Int))), (2, V.d (D.int IntKind.i64 (↑(blen x - blen y) : Int))), (8, V.d (D.bool (decide ((↑y : Int) ≥ (256 : Int)))))] [] 10)) (fun K => by kernel_rfl) ?_
    refine awp_cond rfl (fun e => ?_) (fun e => awp_skip ⟨y, [], ?_, ?_⟩)
    · simp at e
      have hs := blen_shift (n := y) (k := 8) (by omega)
      rw [show y / 2 ^ 8 = y / 256 from rfl] at hs
      have hw : (y : Int).fdiv (2 ^ 8) = (y / 256 : Nat) := fdivN y 8
      refine awp_sx prog_ok hP hnt [(10, .int .u32 (y / 256 : Nat))] [] [] [0, 2] (by kernel_rfl) (G := fun K => (0 : Int) ≤ (8 : Int) ∧ (↑y : Int).fdiv ((2 : Int) ^ min (Int.toNat (8 : Int)) IntKind.u32.bits) = (↑(y / 256) : Int) ∧ K (St.mk [(0, V.d (D.int IntKind.u32 (↑(y / 256) : Int))), (2, V.d (D.int IntKind.i64 (↑(blen x - blen y) : Int)))] [] 13)) (fun K => by kernel_rfl) ?_
      refine ⟨by omega, hw, ?_⟩
      refine awp_x prog_ok hP hnt [(12, .int .i64 (blen x - blen (y / 256) : Nat))] [] [] [0, 2] (by kernel_rfl) (G := fun K => IntKind.i64.wrap ((↑(blen x - blen y) : Int) + (8 : Int)) = (↑(blen x - blen (y / 256)) : Int) ∧ K (St.mk [(0, V.d (D.int IntKind.u32 (↑(y / 256) : Int))), (2, V.d (D.int IntKind.i64 (↑(blen x - blen (y / 256)) : Int)))] [] 16)) (fun K => by kernel_rfl) ?_
      refine ⟨by rw [w64] <;> omega, y / 256, [], ⟨by omega, by omega⟩, ?_⟩
      (constructor <;> simp [hl, envOk, memOk, conv, St.get, St.blk])
    · simp at e
      exact ⟨by omega, hb⟩
    · (constructor <;> simp [hl, envOk, memOk, conv, St.get, St.blk])
  intro z ⟨hz, hb⟩
  have hz8 : blen z ≤ 8 := blen_iff.2 (by omega)
  refine awp_sx prog_ok hP hnt [(15, .int .u8 z), (17, .int .i64 (blen z)), (18, .int .i64 (blen x))] [] [] [2] (by kernel_rfl) (G := fun K => IntKind.u8.wrap (z : Int) = z ∧ ∃ b, Try.prog.underlying 9 = some .string ∧ 0 ≤ (z : Int) ∧ len8[(z : Int).toNat]? = some b ∧ IntKind.i64.wrap (b.toNat : Int) = blen z ∧ IntKind.i64.wrap ((blen x - blen z : Nat) + (blen z : Int)) = blen x ∧ K (St.mk [(2, V.d (D.int IntKind.i64 (blen x)))] [] 19)) (fun K => by kernel_rfl) ?_
  refine ⟨IntWalk.u8_in _ (by omega), UInt8.ofNat (blen z), rfl, by omega, len8_eq z hz, ?_, by rw [w64] <;> omega, ?_⟩
  · rw [UInt8.toNat_ofNat', w64] <;> omega
  · exact awp_ret ⟨.inl rfl, retD rfl⟩

theorem lz32_fn (x : Nat) (hx : x < 4294967296) : Fn Try.prog 248 [.d (.int .u32 x)] [] (.d (.int .i64 (32 - blen x : Nat))) [] := by
  refine fn0 (nt := 6) (res := [.tmp 2]) Try.func248 rfl (by decide) rfl rfl rfl rfl ?_
  intro Cx hP hnt hl
  have h32 : blen x ≤ 32 := blen_iff.2 hx
  refine awp_sx prog_ok hP hnt [] [] [] [0] (by kernel_rfl) (G := fun K => K (St.mk [(0, V.d (D.int IntKind.u32 (↑x : Int)))] [] 1)) (fun K => by kernel_rfl) ?_
  refine awp_sx prog_ok hP hnt [(5, .int .i64 (32 - blen x : Nat))] [.val (.d (.int .i64 (blen x)))] [] [2] (by kernel_rfl) (G := fun K => Fn Try.prog 246 [V.d (D.int IntKind.u32 (↑x : Int))] [] (V.d (D.int IntKind.i64 (↑(blen x) : Int))) [] ∧ IntKind.i64.wrap ((32 : Int) - (↑(blen x) : Int)) = (↑(32 - blen x) : Int) ∧ K (St.mk [(2, V.d (D.int IntKind.i64 (↑(32 - blen x) : Int)))] [] 5)) (fun K => by kernel_rfl) ?_
  exact ⟨len32_fn x hx, by rw [w64] <;> omega, awp_ret ⟨.inl rfl, retD rfl⟩⟩

theorem or_lt {a b s : Nat} (h : b < 2 ^ s) : a * 2 ^ s ||| b = a * 2 ^ s + b := by
  rw [← Nat.shiftLeft_eq, Nat.shiftLeft_add_eq_or_of_lt h]
theorem or_u64 {x y : Nat} (hx : x < 2 ^ 64) (hy : y < 2 ^ 64) : IntKind.u64.wrap (BitVec.ofInt IntKind.u64.bits (x : Int) ||| BitVec.ofInt IntKind.u64.bits (y : Int)).toNat = (x ||| y : Nat) := by
  have h : (x ||| y) < 2 ^ 64 := Nat.or_lt_two_pow hx hy
  show IntKind.u64.wrap (BitVec.ofInt 64 (x : Int) ||| BitVec.ofInt 64 (y : Int)).toNat = _
  rw [BitVec.toNat_or, BitVec.ofInt_natCast, BitVec.ofInt_natCast, BitVec.toNat_ofNat, BitVec.toNat_ofNat, Nat.mod_eq_of_lt hx, Nat.mod_eq_of_lt hy]
  exact u64w (by omega) (by omega)
theorem or_u32 {x y : Nat} (hx : x < 2 ^ 32) (hy : y < 2 ^ 32) : IntKind.u32.wrap (BitVec.ofInt IntKind.u32.bits (x : Int) ||| BitVec.ofInt IntKind.u32.bits (y : Int)).toNat = (x ||| y : Nat) := by
  have h : (x ||| y) < 2 ^ 32 := Nat.or_lt_two_pow hx hy
  show IntKind.u32.wrap (BitVec.ofInt 32 (x : Int) ||| BitVec.ofInt 32 (y : Int)).toNat = _
  rw [BitVec.toNat_or, BitVec.ofInt_natCast, BitVec.ofInt_natCast, BitVec.toNat_ofNat, BitVec.toNat_ofNat, Nat.mod_eq_of_lt hx, Nat.mod_eq_of_lt hy]
  exact u32w (by omega) (by omega)
theorem shl32 {x : Nat} (h : x < 4294967296) : IntKind.u64.wrap ((x : Int) * 2 ^ (min (Int.toNat 32) IntKind.u64.bits)) = (x * 4294967296 : Nat) := by
  rw [show min (Int.toNat 32) IntKind.u64.bits = 32 from rfl, u64w] <;> omega
theorem or_u64' {x y z : Nat} (hx : x < 18446744073709551616) (hy : y < 18446744073709551616) (h : (x ||| y) = z) : IntKind.u64.wrap (BitVec.ofInt IntKind.u64.bits (x : Int) ||| BitVec.ofInt IntKind.u64.bits (y : Int)).toNat = z := by
  rw [or_u64 hx hy, h]

theorem or_w {h l : Nat} (h1 : h < 4294967296) (h2 : l < 4294967296) : IntKind.u64.wrap (BitVec.ofInt IntKind.u64.bits ((h * 4294967296 : Nat) : Int) ||| BitVec.ofInt IntKind.u64.bits (l : Int)).toNat = (h * 4294967296 + l : Nat) :=
  or_u64' (by omega) (by omega) (or_lt (a := h) (s := 32) h2)

theorem div32_fn (h l d : Nat) (hd : h < d) (hl0 : l < 4294967296) (hd2 : d < 4294967296) : Fn Try.prog 260 [.d (.int .u32 h), .d (.int .u32 l), .d (.int .u32 d)] []
    (.tup [.d (.int .u32 ((h * 4294967296 + l) / d : Nat)), .d (.int .u32 ((h * 4294967296 + l) % d : Nat))]) [] := by
  refine fn0 (nt := 33) (res := [.tmp 6, .tmp 7]) Try.func260 rfl (by decide) rfl rfl rfl rfl ?_
  intro Cx hP hnt hl
  refine awp_sx prog_ok hP hnt [] [] [] [0, 1, 2] (by kernel_rfl) (G := fun K => K (St.mk [(0, V.d (D.int IntKind.u32 (↑h : Int))), (1, V.d (D.int IntKind.u32 (↑l : Int))), (2, V.d (D.int IntKind.u32 (↑d : Int)))] [] 2)) (fun K => by kernel_rfl) ?_
  refine awp_cut (ι := Unit) (fun _ => ⟨[(0, .d (.int .u32 h)), (1, .d (.int .u32 l)), (2, .d (.int .u32 d))], [], 9⟩) (fun _ => True) ?_ ?_
  · refine awp_sx prog_ok hP hnt [(10, .bool true), (14, .bool false)] [] [] [0, 1, 2, 15] (by kernel_rfl) (G := fun K => ((↑d : Int) != (0 : Int)) = true ∧ decide ((↑d : Int) ≤ (↑h : Int)) = false ∧ K (St.mk [(0, V.d (D.int IntKind.u32 (↑h : Int))), (1, V.d (D.int IntKind.u32 (↑l : Int))), (2, V.d (D.int IntKind.u32 (↑d : Int))), (15, V.d (D.bool false))] [] 9)) (fun K => by kernel_rfl) ?_
    refine ⟨by simp; omega, by simp; omega, awp_cond (b := false) rfl nofun fun _ => awp_skip ⟨(), [], trivial, ?_⟩⟩
    (constructor <;> simp [hl, envOk, memOk, conv, St.get, St.blk])
  intro _ _
  have e0 : h * 4294967296 + l < 18446744073709551616 := by omega
  have e1 := shl32 (x := h) (by omega)
  have e2 := or_w (h := h) (l := l) (by omega) hl0
  have hdp : 0 < d := by omega
  refine awp_sx prog_ok hP hnt [(18, .int .u64 h), (19, .int .u64 (h * 4294967296 : Nat)), (21, .int .u64 l), (22, .int .u64 (h * 4294967296 + l : Nat))] [] [] [2, 8] (by kernel_rfl) (G := fun K => IntKind.u64.wrap (↑h : Int) = (↑h : Int) ∧ (0 : Int) ≤ (32 : Int) ∧ IntKind.u64.wrap ((↑h : Int) * (2 : Int) ^ min (Int.toNat (32 : Int)) IntKind.u64.bits) = (↑(h * 4294967296) : Int) ∧ IntKind.u64.wrap (↑l : Int) = (↑l : Int) ∧ IntKind.u64.wrap (↑(BitVec.ofInt IntKind.u64.bits (↑(h * 4294967296) : Int) ||| BitVec.ofInt IntKind.u64.bits (↑l : Int)).toNat : Int) = (↑(h * 4294967296 + l) : Int) ∧ K (St.mk [(2, V.d (D.int IntKind.u32 (↑d : Int))), (8, V.d (D.int IntKind.u64 (↑(h * 4294967296 + l) : Int)))] [] 16)) (fun K => by kernel_rfl) ?_
  refine ⟨u64w (by omega) (by omega), by omega, e1, u64w (by omega) (by omega), e2, ?_⟩
  obtain ⟨n, hn⟩ : ∃ n, n = h * 4294967296 + l := ⟨_, rfl⟩
  rw [← hn] at e0 ⊢
  have hq : n / d < 4294967296 := by
    rw [Nat.div_lt_iff_lt_mul hdp, hn]
    have : (h + 1) * 4294967296 ≤ d * 4294967296 := Nat.mul_le_mul_right _ hd
    omega
  have hr : n % d < d := Nat.mod_lt _ hdp
  have et : ((n : Int).tdiv (d : Int)) = (n / d : Nat) := rfl
  have er : ((n : Int).tmod (d : Int)) = (n % d : Nat) := rfl
  obtain ⟨q, hq0⟩ : ∃ q, q = n / d := ⟨_, rfl⟩
  obtain ⟨r, hr0⟩ : ∃ r, r = n % d := ⟨_, rfl⟩
  rw [← hq0] at hq et ⊢
  rw [← hr0] at hr er ⊢
  refine awp_sx prog_ok hP hnt [(25, .int .u64 d), (26, .int .u64 (q : Nat)), (27, .int .u32 (q : Nat)), (30, .int .u64 d), (31, .int .u64 (r : Nat)), (32, .int .u32 (r : Nat))] [] [] [6, 7] (by kernel_rfl) (G := fun K => IntKind.u64.wrap (↑d : Int) = (↑d : Int) ∧ (↑d : Int) ≠ (0 : Int) ∧ IntKind.u64.wrap ((↑n : Int).tdiv (↑d : Int)) = (↑q : Int) ∧ IntKind.u32.wrap (↑q : Int) = (↑q : Int) ∧ IntKind.u64.wrap (↑d : Int) = (↑d : Int) ∧ (↑d : Int) ≠ (0 : Int) ∧ (↑n : Int).tmod (↑d : Int) = (↑r : Int) ∧ IntKind.u32.wrap (↑r : Int) = (↑r : Int) ∧ K (St.mk [(6, V.d (D.int IntKind.u32 (↑q : Int))), (7, V.d (D.int IntKind.u32 (↑r : Int)))] [] 28)) (fun K => by kernel_rfl) ?_
  refine ⟨u64w (by omega) (by omega), by omega, by rw [et]; exact u64w (by omega) (by omega), u32w (by omega) (by omega), u64w (by omega) (by omega), by omega, er, u32w (by omega) (by omega), awp_ret ⟨.inl rfl, ret2 rfl rfl⟩⟩

theorem div64_fn (n d : Nat) (hd : 0 < d) (hn : n < 18446744073709551616) (hd2 : d < 18446744073709551616) : Fn Try.prog 249 [.d (.int .u64 0), .d (.int .u64 n), .d (.int .u64 d)] []
    (.tup [.d (.int .u64 (n / d : Nat)), .d (.int .u64 (n % d : Nat))]) [] := by
  refine fn0 (nt := 135) (res := [.tmp 6, .tmp 7]) Try.func249 rfl (by decide) rfl rfl rfl rfl ?_
  intro Cx hP hnt hl
  refine awp_sx prog_ok hP hnt [] [] [] [0, 1, 2] (by kernel_rfl) (G := fun K => K (St.mk [(0, V.d (D.int IntKind.u64 (0 : Int))), (1, V.d (D.int IntKind.u64 (↑n : Int))), (2, V.d (D.int IntKind.u64 (↑d : Int)))] [] 2)) (fun K => by kernel_rfl) ?_
  refine awp_cut (ι := Unit) (fun _ => ⟨[(0, .d (.int .u64 0)), (1, .d (.int .u64 n)), (2, .d (.int .u64 d))], [], 9⟩) (fun _ => True) ?_ ?_
  · refine awp_sx prog_ok hP hnt [(20, .bool false)] [] [] [0, 1, 2, 20] (by kernel_rfl) (G := fun K => ((↑d : Int) == (0 : Int)) = false ∧ K (St.mk [(0, V.d (D.int IntKind.u64 (0 : Int))), (1, V.d (D.int IntKind.u64 (↑n : Int))), (2, V.d (D.int IntKind.u64 (↑d : Int))), (20, V.d (D.bool false))] [] 4)) (fun K => by kernel_rfl) ?_
    refine ⟨by simp; omega, awp_cond (b := false) rfl nofun fun _ => awp_skip ⟨(), [], trivial, ?_⟩⟩
    (constructor <;> simp [hl, envOk, memOk, conv, St.get, St.blk])
  intro _ _
  refine awp_cut (ι := Unit) (fun _ => ⟨[(0, .d (.int .u64 0)), (1, .d (.int .u64 n)), (2, .d (.int .u64 d))], [], 9⟩) (fun _ => True) ?_ ?_
  · refine awp_sx prog_ok hP hnt [(24, .bool false)] [] [] [0, 1, 2, 24] (by kernel_rfl) (G := fun K => decide ((↑d : Int) ≤ (0 : Int)) = false ∧ K (St.mk [(0, V.d (D.int IntKind.u64 (0 : Int))), (1, V.d (D.int IntKind.u64 (↑n : Int))), (2, V.d (D.int IntKind.u64 (↑d : Int))), (24, V.d (D.bool false))] [] 12)) (fun K => by kernel_rfl) ?_
    refine ⟨by simp; omega, awp_cond (b := false) rfl nofun fun _ => awp_skip ⟨(), [], trivial, ?_⟩⟩
    (constructor <;> simp [hl, envOk, memOk, conv, St.get, St.blk])
  intro _ _
  have et : ((n : Int).tdiv (d : Int)) = (n / d : Nat) := rfl
  have er : ((n : Int).tmod (d : Int)) = (n % d : Nat) := rfl
  have hq : n / d ≤ n := Nat.div_le_self _ _
  obtain ⟨q, hq0⟩ : ∃ q, q = n / d := ⟨_, rfl⟩
  obtain ⟨r, hr0⟩ : ∃ r, r = n % d := ⟨_, rfl⟩
  rw [← hq0] at hq et ⊢
  rw [← hr0] at er ⊢
  refine awp_seq_k fun K hK => ?_
  refine awp_sx prog_ok hP hnt [(27, .bool true)] [] [] [0, 1, 2, 27] (by kernel_rfl) (G := fun K => ((0 : Int) == (0 : Int)) = true ∧ K (St.mk [(0, V.d (D.int IntKind.u64 (0 : Int))), (1, V.d (D.int IntKind.u64 (↑n : Int))), (2, V.d (D.int IntKind.u64 (↑d : Int))), (27, V.d (D.bool true))] [] 11)) (fun K => by kernel_rfl) ?_
  refine ⟨rfl, awp_cond (b := true) rfl (fun _ => ?_) nofun⟩
  refine awp_sx prog_ok hP hnt [(30, .int .u64 (q : Nat)), (33, .int .u64 (r : Nat))] [] [] [6, 7] (by kernel_rfl) (G := fun K => (↑d : Int) ≠ (0 : Int) ∧ IntKind.u64.wrap ((↑n : Int).tdiv (↑d : Int)) = (↑q : Int) ∧ (↑d : Int) ≠ (0 : Int) ∧ (↑n : Int).tmod (↑d : Int) = (↑r : Int) ∧ K (St.mk [(6, V.d (D.int IntKind.u64 (↑q : Int))), (7, V.d (D.int IntKind.u64 (↑r : Int)))] [] 19)) (fun K => by kernel_rfl) ?_
  exact ⟨by omega, by rw [et]; exact u64w (by omega) (by omega), by omega, er, awp_ret ⟨.inl rfl, ret2 rfl rfl⟩⟩
end Go.Abs

set_option linter.unusedVariables false
set_option linter.unusedSimpArgs false
namespace Go.Abs
open Go
variable {P : Program}

/-- less known of a made block -/
theorem Fn.out_take {f : Nat} {args : List V} {lent : List (Nat × Blk)} {r : V} {b : Nat} {cells : List D} {l : Bool} (h : Fn P f args lent r [(b, ⟨cells, l⟩)]) (n : Nat) : Fn P f args lent r [(b, ⟨cells.take n, l⟩)] := by
  refine ⟨h.1, fun w ok β vs hok hs hr hl hi => ?_⟩
  refine (h.2 w ok β vs hok hs hr hl hi).mono ?_
  rintro e w' ⟨v, ok', β', rfl, hc⟩
  refine ⟨v, ok', β', rfl, hc.os, hc.tape, hc.output, hc.size, hc.keep, hc.shape, hc.lo, hc.hi, hc.lt, hc.res, hc.same, fun x kx hx => ?_, fun x y kx ky B hx hy h1 h2 => ?_⟩
  · simp at hx
    obtain ⟨rfl, rfl⟩ := hx
    rcases hc.made x _ (List.mem_singleton.2 rfl) with ⟨h1, h2⟩ | ⟨B, h1, h2, h3⟩
    · simp at h2; exact .inl ⟨h1, by simp [h2]⟩
    · obtain ⟨arr, T, g1, g2, g3, g4, g5⟩ := h2
      refine .inr ⟨B, h1, ⟨arr, T, g1, ?_, fun i d hd => g3 i d ?_, g4, g5⟩, h3⟩
      · simp at g2 ⊢; omega
      · simp at hd ⊢
        rw [List.getElem?_take] at hd
        split at hd
        · exact hd
        · cases hd
  · simp at hx hy
    rw [hx.1, hy.1]

/-- a made row, told as plain data -/
theorem Fn.freeze {f : Nat} {args : List V} {b off n sz : Nat} {cells : List D} (h : Fn P f args [] (.own b off n sz) [(b, ⟨cells, true⟩)]) : Fn P f args [] (.d (.lst n ((cells.drop off).take (n * sz)))) [] := by
  refine ⟨h.1, fun w ok β vs hok hs hr hl hi => ?_⟩
  refine (h.2 w ok β vs hok hs hr hl hi).mono ?_
  rintro e w' ⟨v, ok', β', rfl, hc⟩
  have hres := hc.res
  simp only [RepV] at hres
  obtain ⟨A, c, rfl, hn, hA⟩ := hres
  have base : ∀ ok'' : Nat → Prop, (∀ k, ok' k → ok'' k) → (∀ k, ok'' k → ok k ∨ w.heap.size ≤ k) → (∀ k, ok'' k → k < w'.heap.size) → RepL w'.heap ok'' A 0 ((cells.drop off).take (n * sz)) →
      ∃ v ok'' β'', Ending.returned (.slice A n c) = .returned v ∧ CallOk w ok β [] (.d (.lst n ((cells.drop off).take (n * sz)))) [] v w' ok'' β'' := fun ok'' h1 h2 h3 h4 =>
    ⟨_, ok'', β', rfl, hc.os, hc.tape, hc.output, hc.size, hc.keep, hc.shape, fun k hk => h1 k (hc.lo k hk), fun k hk => (h2 k hk).imp id .inr, h3, by simp only [RepV, RepD]; exact ⟨A, c, rfl, hn, h4⟩, by simp, by simp, by simp⟩
  have hhi : ∀ k, ok' k → ok k ∨ w.heap.size ≤ k := fun k hk => by
    rcases hc.hi k hk with h1 | ⟨_, _, h1, _⟩ | h1
    · exact .inl h1
    · simp at h1
    · exact .inr h1
  rcases hA with ⟨rfl, rfl⟩ | ⟨B, arr, T, rfl, e2, e3, e4⟩
  · refine base ok' (fun _ h => h) hhi hc.lt ?_
    have : n = 0 := by omega
    subst this
    simp [RepL]
  · rcases hc.made b _ (List.mem_singleton.2 rfl) with ⟨h1, h2⟩ | ⟨B', h1, h2, h3⟩
    · rw [h1] at e2; cases e2
    · rw [h1] at e2
      cases e2
      obtain ⟨arr', T', g1, g2, g3, g4, g5⟩ := h2
      have hB : w.heap.size ≤ B := by
        rcases h3 with ⟨_, _, h3, _⟩ | h3
        · simp at h3
        · exact h3
      have hB2 : B < w'.heap.size := (Array.getElem?_eq_some_iff.1 g1).1
      refine base (fun k => ok' k ∨ k = B) (fun _ h => .inl h) (fun k hk => ?_) (fun k hk => ?_) ?_
      · rcases hk with hk | rfl
        · exact hhi k hk
        · exact .inr hB
      · rcases hk with hk | rfl
        · exact hc.lt k hk
        · exact hB2
      · rw [RepL_iff]
        intro i d hd
        rw [List.getElem?_take] at hd
        split at hd
        · rw [List.getElem?_drop] at hd
          obtain ⟨u, hu, hr2⟩ := g3 _ d hd
          exact ⟨B, off, u, rfl, .inr rfl, ⟨arr', T', _, g1, by simpa using hu⟩, RepD.keep ⟨fun _ _ => rfl, fun _ h => .inl h⟩ d u hr2⟩
        · cases hd

/-- a function that holds a label, and whose run jumps to none -/
theorem awp_scope {C : Ctx} {c : Code} {s : St} {R : St → Prop} (h : AWP C c s (fun e s' => (e = .ret ∨ e = .normal) ∧ R s')) : AWP C (.scope c) s (fun e s' => (e = .ret ∨ e = .normal) ∧ R s') := fun a w hS => by
  refine wp_scope_straight (Code.wp_mono (fun e a' w' hq => ?_) (h a w hS))
  obtain ⟨s', ⟨he, hr⟩, h2⟩ := hq
  rcases he with rfl | rfl
  · exact ⟨s', ⟨.inl rfl, hr⟩, h2⟩
  · exact ⟨s', ⟨.inr rfl, hr⟩, h2⟩
end Go.Abs

set_option linter.unusedVariables false
set_option linter.unusedSimpArgs false
namespace Go.Abs
open Go Go.Proofs
set_option maxRecDepth 100000

theorem dig_len0 {n : Nat} : (dig n).length = 0 ↔ n = 0 := by rw [List.length_eq_zero_iff, dig_nil]
/-- the top digit -/
theorem dig_top {n : Nat} (h : n ≠ 0) : ∃ t, (dig n)[(dig n).length - 1]? = some t ∧ t ≠ 0 ∧ t < 4294967296 ∧ t = n / 4294967296 ^ ((dig n).length - 1) := by
  have hp : 0 < (dig n).length := by have := mt dig_len0.1 h; omega
  obtain ⟨t, ht⟩ := get_ex (l := dig n) (i := (dig n).length - 1) (by omega)
  have h1 := val_take_succ ht
  rw [show (dig n).length - 1 + 1 = (dig n).length by omega, List.take_of_length_le (Nat.le_refl _), val_dig] at h1
  have h2 := val_take_lt (dig_lt n) ((dig n).length - 1)
  have hq : t = n / 4294967296 ^ ((dig n).length - 1) := by
    obtain ⟨M, hM⟩ : ∃ M, M = (dig n).length - 1 := ⟨_, rfl⟩
    rw [← hM] at h1 h2 ⊢
    rw [h1, Nat.add_mul_div_left _ _ (Nat.pow_pos (by omega)), Nat.div_eq_of_lt h2]; omega
  have hge := dig_ge (n := n) (k := (dig n).length - 1) (by omega)
  refine ⟨t, ht, ?_, dig_get' t ht, hq⟩
  intro e
  subst e
  rw [Nat.mul_zero, Nat.add_zero] at h1
  omega
where dig_get' (t : Nat) (ht : (dig n)[(dig n).length - 1]? = some t) : t < 4294967296 := dg_get (dig_lt n) ht

theorem uint64_fn (l : List Nat) (h : l.length ≤ 2 ^ 40) (hd : Dg l) : Fn Try.prog 239 [.d (du l)] [] (.tup [.d (.int .u64 (if val l < 18446744073709551616 then val l else 0 : Nat)), .d (.bool (decide (val l < 18446744073709551616)))]) [] := by
  refine fn0 (nt := 28) (res := [.tmp 2, .tmp 3]) Try.func239 rfl (by decide) rfl rfl rfl rfl ?_
  intro Cx hP hnt hl
  have ht := trim_fn l (by omega) hd
  have hle := dig_le hd
  obtain ⟨n, hn⟩ : ∃ n, n = val l := ⟨_, rfl⟩
  rw [← hn] at ht hle ⊢
  refine awp_sx prog_ok hP hnt [] [] [] [0] (by kernel_rfl) (G := fun K => K (St.mk [(0, V.d (du l))] [] 2)) (fun K => by kernel_rfl) ?_
  refine awp_sx prog_ok hP hnt [] [.val (.d (du (dig n)))] [] [0] (by kernel_rfl) (G := fun K => Fn Try.prog 212 [V.d (du l)] [] (V.d (du (dig n))) [] ∧ K (St.mk [(0, V.d (du (dig n)))] [] 5)) (fun K => by kernel_rfl) ?_
  refine ⟨ht, ?_⟩
  refine awp_seq_k fun K hK => ?_
  refine awp_sx prog_ok hP hnt [] [] [] [0, 7] (by kernel_rfl) (G := fun K => K (St.mk [(0, V.d (du (dig n))), (7, V.d (D.int IntKind.i64 (↑(dig n).length : Int)))] [] 7)) (fun K => by kernel_rfl) ?_
  refine awp_block ?_
  refine awp_sx prog_ok hP hnt [] [] [] [0, 7, 8] (by kernel_rfl) (G := fun K => K (St.mk [(0, V.d (du (dig n))), (7, V.d (D.int IntKind.i64 (↑(dig n).length : Int))), (8, V.d (D.bool ((↑(dig n).length : Int) == (0 : Int))))] [] 9)) (fun K => by kernel_rfl) ?_
  by_cases h0 : n = 0
  · subst h0
    rw [dig_zero]
    refine awp_cond (b := true) rfl (fun _ => ?_) nofun
    refine awp_sx prog_ok hP hnt [] [] [] [2, 3] (by kernel_rfl) (G := fun K => K (St.mk [(2, V.d (D.int IntKind.u64 (0 : Int))), (3, V.d (D.bool true))] [] 11)) (fun K => by kernel_rfl) ?_
    exact awp_ret ⟨.inl rfl, ret2 rfl rfl⟩
  by_cases h1 : n < 4294967296
  · have hdg : dig n = [n] := by rw [dig_pos h0, Nat.mod_eq_of_lt h1, Nat.div_eq_of_lt h1, dig_zero]
    rw [hdg]
    refine awp_cond (b := false) rfl nofun fun _ => ?_
    refine awp_sx prog_ok hP hnt [] [] [] [0, 7, 10] (by kernel_rfl) (G := fun K => K (St.mk [(0, V.d (du [n])), (7, V.d (D.int IntKind.i64 (↑[n].length : Int))), (10, V.d (D.bool ((↑[n].length : Int) == (1 : Int))))] [] 11)) (fun K => by kernel_rfl) ?_
    refine awp_cond (b := true) rfl (fun _ => ?_) nofun
    refine awp_sx prog_ok hP hnt [(15, .int .u64 n)] [] [] [2, 3] (by kernel_rfl) (G := fun K => ((0 : Int) ≤ (0 : Int) ∧ (0 : Int) < (↑[n].length : Int) ∧ 1 ≤ (u32s [n]).length) ∧ IntKind.u64.wrap (↑n : Int) = (↑n : Int) ∧ K (St.mk [(2, V.d (D.int IntKind.u64 (↑n : Int))), (3, V.d (D.bool true))] [] 17)) (fun K => by kernel_rfl) ?_
    rw [if_pos (by omega), show decide (n < 18446744073709551616) = true from decide_eq_true (by omega)]
    exact ⟨⟨by omega, by simp, by simp⟩, u64w (by omega) (by omega), awp_ret ⟨.inl rfl, ret2 rfl rfl⟩⟩
  by_cases h2 : n < 18446744073709551616
  · have hd1 : n / 4294967296 ≠ 0 := by omega
    have hd2 : n / 4294967296 < 4294967296 := by omega
    have hdg : dig n = [n % 4294967296, n / 4294967296] := by rw [dig_pos h0, dig_pos hd1, Nat.mod_eq_of_lt hd2, Nat.div_eq_of_lt hd2, dig_zero]
    rw [hdg]
    refine awp_cond (b := false) rfl nofun fun _ => ?_
    refine awp_sx prog_ok hP hnt [] [] [] [0, 7, 10] (by kernel_rfl) (G := fun K => K (St.mk [(0, V.d (du [n % 4294967296, n / 4294967296])), (7, V.d (D.int IntKind.i64 (↑[n % 4294967296, n / 4294967296].length : Int))), (10, V.d (D.bool ((↑[n % 4294967296, n / 4294967296].length : Int) == (1 : Int))))] [] 11)) (fun K => by kernel_rfl) ?_
    refine awp_cond (b := false) rfl nofun fun _ => ?_
    refine awp_sx prog_ok hP hnt [] [] [] [0, 16] (by kernel_rfl) (G := fun K => K (St.mk [(0, V.d (du [n % 4294967296, n / 4294967296])), (16, V.d (D.bool ((↑[n % 4294967296, n / 4294967296].length : Int) == (2 : Int))))] [] 13)) (fun K => by kernel_rfl) ?_
    refine awp_cond (b := true) rfl (fun _ => ?_) nofun
    have e1 := shl32 hd2
    have e2 := or_w hd2 (show n % 4294967296 < 4294967296 by omega)
    rw [show n / 4294967296 * 4294967296 + n % 4294967296 = n by omega] at e2
    refine awp_sx prog_ok hP hnt [(21, .int .u64 (n / 4294967296 : Nat)), (22, .int .u64 (n / 4294967296 * 4294967296 : Nat)), (26, .int .u64 (n % 4294967296 : Nat)), (27, .int .u64 n)] [] [] [2, 3] (by kernel_rfl) (G := fun K => ((0 : Int) ≤ (1 : Int) ∧ (1 : Int) < (↑[n % 4294967296, n / 4294967296].length : Int) ∧ 2 ≤ (u32s [n % 4294967296, n / 4294967296]).length) ∧ IntKind.u64.wrap (↑(n / 4294967296) : Int) = (↑(n / 4294967296) : Int) ∧ (0 : Int) ≤ (32 : Int) ∧ IntKind.u64.wrap ((↑(n / 4294967296) : Int) * (2 : Int) ^ min (Int.toNat (32 : Int)) IntKind.u64.bits) = (↑(n / 4294967296 * 4294967296) : Int) ∧ ((0 : Int) ≤ (0 : Int) ∧ (0 : Int) < (↑[n % 4294967296, n / 4294967296].length : Int) ∧ 1 ≤ (u32s [n % 4294967296, n / 4294967296]).length) ∧ IntKind.u64.wrap (↑(n % 4294967296) : Int) = (↑(n % 4294967296) : Int) ∧ IntKind.u64.wrap (↑(BitVec.ofInt IntKind.u64.bits (↑(n / 4294967296 * 4294967296) : Int) ||| BitVec.ofInt IntKind.u64.bits (↑(n % 4294967296) : Int)).toNat : Int) = (↑n : Int) ∧ K (St.mk [(2, V.d (D.int IntKind.u64 (↑n : Int))), (3, V.d (D.bool true))] [] 25)) (fun K => by kernel_rfl) ?_
    rw [if_pos (by omega), show decide (n < 18446744073709551616) = true from decide_eq_true (by omega)]
    exact ⟨⟨by omega, by simp, by simp⟩, u64w (by omega) (by omega), by omega, e1, ⟨by omega, by simp, by simp⟩, u64w (by omega) (by omega), e2, awp_ret ⟨.inl rfl, ret2 rfl rfl⟩⟩
  · have hlen : 3 ≤ (dig n).length := by
      rcases Nat.lt_or_ge (dig n).length 3 with h | h
      · have := dig_lt_of_len (n := n) (k := 2) (by omega)
        omega
      · exact h
    obtain ⟨N, hN⟩ : ∃ N, N = (dig n).length := ⟨_, rfl⟩
    rw [← hN]
    rw [← hN] at hlen
    refine awp_cond (b := ((N : Int) == 0)) rfl (fun e => by simp at e; omega) fun _ => ?_
    refine awp_sx prog_ok hP hnt [] [] [] [0, 7, 10] (by kernel_rfl) (G := fun K => K (St.mk [(0, V.d (du (dig n))), (7, V.d (D.int IntKind.i64 (↑N : Int))), (10, V.d (D.bool ((↑N : Int) == (1 : Int))))] [] 11)) (fun K => by kernel_rfl) ?_
    refine awp_cond (b := ((N : Int) == 1)) rfl (fun e => by simp at e; omega) fun _ => ?_
    refine awp_sx prog_ok hP hnt [] [] [] [0, 16] (by kernel_rfl) (G := fun K => K (St.mk [(0, V.d (du (dig n))), (16, V.d (D.bool ((↑N : Int) == (2 : Int))))] [] 13)) (fun K => by kernel_rfl) ?_
    refine awp_cond (b := ((N : Int) == 2)) rfl (fun e => by simp at e; omega) fun _ => awp_skip (hK _ ?_)
    refine awp_sx prog_ok hP hnt [] [] [] [2, 3] (by kernel_rfl) (G := fun K => K (St.mk [(2, V.d (D.int IntKind.u64 (0 : Int))), (3, V.d (D.bool false))] [] 15)) (fun K => by kernel_rfl) ?_
    rw [if_neg h2, show decide (n < 18446744073709551616) = false from decide_eq_false h2]
    exact awp_ret ⟨.inl rfl, ret2 rfl rfl⟩

/-- trim of digits that are the call's own -/
theorem trimO_fn (l : List Nat) (h : l.length ≤ 2 ^ 40) (hd : Dg l) (b : Nat) : Fn Try.prog 212 [.own b 0 l.length 1] [(b, ⟨u32s l, true⟩)] (.own b 0 (dig (val l)).length 1) [(b, ⟨u32s l, true⟩)] := by
  refine Fn.lend_ren ?_ b
  refine fn_intro prog_ok (nx := 1) (res := [.tmp 2]) Try.func212 rfl (by decide) (by show 1 ≤ 23; omega) rfl (by simp) (by simp [V.refsL, V.refs]) ?_
  intro Cx hP hnt0 hl
  have hnt : Cx.nt = 23 := hnt0
  simp only [List.map_cons, List.map_nil] at hl ⊢
  refine awp_sx prog_ok hP hnt [] [] [] [0] (by kernel_rfl) (G := fun K => K (St.mk [(0, V.own 0 0 l.length 1)] [(0, some (Blk.mk (u32s l) true))] 2)) (fun K => by kernel_rfl) ?_
  refine awp_sx prog_ok hP hnt [] [] [] [0, 3] (by kernel_rfl) (G := fun K => K (St.mk [(0, V.own 0 0 l.length 1), (3, V.d (D.int IntKind.i64 (↑l.length : Int)))] [(0, some (Blk.mk (u32s l) true))] 5)) (fun K => by kernel_rfl) ?_
  have hfin : ∀ n, n ≤ l.length → l.take n = dig (val l) → n = (dig (val l)).length := fun n hn e => by rw [← e, List.length_take]; omega
  refine awp_cut (ι := Unit) (fun _ => ⟨[(0, .own 0 0 l.length 1), (3, .d (.int .i64 (dig (val l)).length))], [(0, some ⟨u32s l, true⟩)], 1⟩) (fun _ => True) ?_ ?_
  · refine awp_block ?_
    refine awp_loop (ι := Nat) (fun n => ⟨[(0, .own 0 0 l.length 1), (3, .d (.int .i64 n))], [(0, some ⟨u32s l, true⟩)], 1⟩) (fun n => n ≤ l.length ∧ val (l.take n) = val l) (fun n => n) l.length [(0, 0)] ⟨Nat.le_refl _, by simp⟩ ?_ ?_
    · (constructor <;> simp [hl, envOk, memOk, conv, St.get, St.blk])
    intro n ⟨hn, ht⟩
    refine awp_seq_k fun K2 hK2 => ?_
    by_cases h0 : n = 0
    · subst h0
      refine awp_sx prog_ok hP hnt [(8, .bool false)] [] [] [0, 3, 15] (by kernel_rfl) (G := fun K => decide ((↑0 : Int) > (0 : Int)) = false ∧ K (St.mk [(0, V.own 0 0 l.length 1), (3, V.d (D.int IntKind.i64 (↑0 : Int))), (15, V.d (D.bool false))] [(0, some (Blk.mk (u32s l) true))] 11)) (fun K => by kernel_rfl) ?_
      refine ⟨rfl, awp_cond (b := false) rfl nofun fun _ => awp_exit ⟨(), [(0, 0)], trivial, ?_⟩⟩
      have := hfin 0 (by omega) (by rw [← ht]; simp [val, dig_zero])
      rw [← this]
      (constructor <;> simp [hl, envOk, memOk, conv, St.get, St.blk])
    · obtain ⟨x, h3⟩ := get_ex (l := l) (i := n - 1) (by omega)
      have h4 := val_take_succ h3
      rw [show n - 1 + 1 = n by omega] at h4
      refine awp_sx prog_ok hP hnt [(8, .bool true), (11, .int .i64 (n - 1 : Nat))] [] [some [.int .u32 x]] [0, 3, 15] (by kernel_rfl) (G := fun K => decide ((↑n : Int) > (0 : Int)) = true ∧ IntKind.i64.wrap ((↑n : Int) - (1 : Int)) = (↑(n - 1) : Int) ∧ ((0 : Int) ≤ (↑(n - 1) : Int) ∧ (↑(n - 1) : Int) < (↑l.length : Int)) ∧ (u32s l)[0 + (↑(n - 1) : Int).toNat * 1]? = some (D.int IntKind.u32 (↑x : Int)) ∧ K (St.mk [(0, V.own 0 0 l.length 1), (3, V.d (D.int IntKind.i64 (↑n : Int))), (15, V.d (D.bool ((↑x : Int) == (0 : Int))))] [(0, some (Blk.mk (u32s l) true))] 11)) (fun K => by kernel_rfl) ?_
      refine ⟨by simp; omega, by rw [w64] <;> omega, ⟨by omega, by omega⟩, by simp [h3], ?_⟩
      refine awp_cond (b := ((x : Int) == 0)) rfl (fun hb => awp_skip (hK2 _ ?_)) (fun hb => awp_exit ⟨(), [(0, 0)], trivial, ?_⟩)
      · refine awp_block ?_
        refine awp_x prog_ok hP hnt [(17, .int .i64 (n - 1 : Nat))] [] [] [0, 3] (by kernel_rfl) (G := fun K => IntKind.i64.wrap ((↑n : Int) - (1 : Int)) = (↑(n - 1) : Int) ∧ K (St.mk [(0, V.own 0 0 l.length 1), (3, V.d (D.int IntKind.i64 (↑(n - 1) : Int)))] [(0, some (Blk.mk (u32s l) true))] 14)) (fun K => by kernel_rfl) ?_
        refine ⟨by rw [w64] <;> omega, n - 1, [(0, 0)], ⟨⟨by omega, ?_⟩, by omega⟩, ?_⟩
        · simp at hb; subst hb; rw [← ht, h4]; simp
        · (constructor <;> simp [hl, envOk, memOk, conv, St.get, St.blk])
      · have := hfin n hn (by
          rw [← ht]
          refine can_dig (dg_take hd n) ?_
          simp at hb
          rw [List.getLast?_take, if_neg h0, h3]
          simpa using hb)
        rw [← this]
        (constructor <;> simp [hl, envOk, memOk, conv, St.get, St.blk])
  · intro _ _
    have hle := dig_le hd
    refine awp_seq_k fun K hK => ?_
    refine awp_sx prog_ok hP hnt [] [] [] [0, 3, 19] (by kernel_rfl) (G := fun K => K (St.mk [(0, V.own 0 0 l.length 1), (3, V.d (D.int IntKind.i64 (↑(dig (val l)).length : Int))), (19, V.d (D.bool ((↑(dig (val l)).length : Int) == (0 : Int))))] [(0, some (Blk.mk (u32s l) true))] 3)) (fun K => by kernel_rfl) ?_
    refine awp_cond rfl (fun hb => ?_) (fun hb => awp_skip (hK _ ?_))
    · refine awp_sx prog_ok hP hnt [] [] [] [2] (by kernel_rfl) (G := fun K => K (St.mk [(2, V.nil)] [(0, some (Blk.mk (u32s l) true))] 4)) (fun K => by kernel_rfl) ?_
      simp at hb
      rw [hb, List.length_nil]
      refine awp_weak [(0, 0)] ⟨[(2, .own 0 0 0 1)], [(0, some ⟨u32s l, true⟩)], 1⟩ ?_ (awp_ret ⟨.inl rfl, .inl ⟨rfl, rfl, trivial⟩⟩)
      (constructor <;> simp [hl, envOk, memOk, conv, St.get, St.blk])
    · refine awp_sx prog_ok hP hnt [] [] [] [2] (by kernel_rfl) (G := fun K => ((0 : Int) ≤ (↑(dig (val l)).length : Int) ∧ (↑(dig (val l)).length : Int) ≤ (↑l.length : Int)) ∧ K (St.mk [(2, V.own 0 0 (↑(dig (val l)).length : Int).toNat 1)] [(0, some (Blk.mk (u32s l) true))] 7)) (fun K => by kernel_rfl) ?_
      exact ⟨⟨by omega, by omega⟩, awp_ret ⟨.inl rfl, .inl ⟨rfl, rfl, trivial⟩⟩⟩

theorem set_rep (k x : Nat) (q : List Nat) : (List.replicate (k + 1) 0 ++ q).set k x = List.replicate k 0 ++ x :: q := by
  rw [List.replicate_succ', List.append_assoc, List.set_append_right _ _ (by simp)]
  simp

/-- division by one digit -/
theorem divsmall_fn (l : List Nat) (d : Nat) (h : l.length ≤ 2 ^ 40) (hd : Dg l) (h0 : 0 < d) (h1 : d < 4294967296) : Fn Try.prog 247 [.d (du l), .d (.int .u32 d)] []
    (.tup [.d (du (dig (val l / d))), .d (.int .u32 (val l % d : Nat)), .d (.bool true)]) [] := by
  refine fn0 (nt := 40) (res := [.tmp 4, .tmp 5, .tmp 6]) Try.func247 rfl (by decide) rfl rfl rfl rfl ?_
  intro Cx hP hnt hl
  have ht := trim_fn l (by omega) hd
  have hle := dig_le hd
  obtain ⟨n, hn⟩ : ∃ n, n = val l := ⟨_, rfl⟩
  rw [← hn] at ht hle ⊢
  refine awp_sx prog_ok hP hnt [] [] [] [0, 1] (by kernel_rfl) (G := fun K => K (St.mk [(0, V.d (du l)), (1, V.d (D.int IntKind.u32 (↑d : Int)))] [] 3)) (fun K => by kernel_rfl) ?_
  refine awp_seq_k fun K hK => ?_
  refine awp_sx prog_ok hP hnt [(11, .bool false)] [] [] [0, 1, 11] (by kernel_rfl) (G := fun K => ((↑d : Int) == (0 : Int)) = false ∧ K (St.mk [(0, V.d (du l)), (1, V.d (D.int IntKind.u32 (↑d : Int))), (11, V.d (D.bool false))] [] 5)) (fun K => by kernel_rfl) ?_
  refine ⟨by simp; omega, awp_cond (b := false) rfl nofun fun _ => awp_skip (hK _ ?_)⟩
  refine awp_sx prog_ok hP hnt [] [.val (.d (du (dig n)))] [] [0, 1] (by kernel_rfl) (G := fun K => Fn Try.prog 212 [V.d (du l)] [] (V.d (du (dig n))) [] ∧ K (St.mk [(0, V.d (du (dig n))), (1, V.d (D.int IntKind.u32 (↑d : Int)))] [] 8)) (fun K => by kernel_rfl) ?_
  refine ⟨ht, ?_⟩
  have hlen : (dig n).length ≤ 2 ^ 40 := by omega
  have hvd := val_dig n
  have hDg := dig_lt n
  obtain ⟨L, hL⟩ : ∃ L, L = dig n := ⟨_, rfl⟩
  rw [← hL] at hlen hvd hDg ⊢
  refine awp_sx prog_ok hP hnt [] [] [] [0, 1, 7] (by kernel_rfl) (G := fun K => ((↑L.length : Int) = (↑L.length : Int) ∧ (0 : Int) ≤ (↑L.length : Int) ∧ (↑L.length : Int) * (↑4 : Int) ≤ (2 : Int) ^ 47) ∧ K (St.mk [(0, V.d (du L)), (1, V.d (D.int IntKind.u32 (↑d : Int))), (7, V.own 10 0 (↑L.length : Int).toNat 1)] [(10, some (Blk.mk (zeros (↑L.length : Int).toNat (TI.mk (Kind.int IntKind.u32) 1 4 [D.int IntKind.u32 (0 : Int)]).zero) true))] 12)) (fun K => by kernel_rfl) ?_
  refine ⟨⟨rfl, by omega, by omega⟩, ?_⟩
  refine awp_sx prog_ok hP hnt [] [] [] [0, 1, 7, 8] (by kernel_rfl) (G := fun K => K (St.mk [(0, V.d (du L)), (1, V.d (D.int IntKind.u32 (↑d : Int))), (7, V.own 10 0 (↑L.length : Int).toNat 1), (8, V.d (D.int IntKind.u32 (0 : Int)))] [(10, some (Blk.mk (zeros (↑L.length : Int).toNat (TI.mk (Kind.int IntKind.u32) 1 4 [D.int IntKind.u32 (0 : Int)]).zero) true))] 13)) (fun K => by kernel_rfl) ?_
  refine awp_cut (ι := List Nat) (fun q => ⟨[(7, .own 0 0 L.length 1), (8, .d (.int .u32 (n % d : Nat)))], [(0, some ⟨u32s q, true⟩)], 1⟩) (fun q => q.length = L.length ∧ Dg q ∧ val q = n / d) ?_ ?_
  · refine awp_sx prog_ok hP hnt [(19, .int .i64 ((L.length : Int) - 1))] [] [] [0, 1, 7, 8, 9] (by kernel_rfl) (G := fun K => IntKind.i64.wrap ((↑L.length : Int) - (1 : Int)) = (↑L.length : Int) - (1 : Int) ∧ K (St.mk [(0, V.d (du L)), (1, V.d (D.int IntKind.u32 (↑d : Int))), (7, V.own 10 0 (↑L.length : Int).toNat 1), (8, V.d (D.int IntKind.u32 (0 : Int))), (9, V.d (D.int IntKind.i64 ((↑L.length : Int) - (1 : Int))))] [(10, some (Blk.mk (zeros (↑L.length : Int).toNat (TI.mk (Kind.int IntKind.u32) 1 4 [D.int IntKind.u32 (0 : Int)]).zero) true))] 17)) (fun K => by kernel_rfl) ?_
    refine ⟨by rw [w64] <;> omega, ?_⟩
    refine awp_block ?_
    refine awp_loop (ι := Nat × List Nat × Nat) (fun ⟨k, q, r⟩ => ⟨[(0, .d (du L)), (1, .d (.int .u32 d)), (7, .own 0 0 L.length 1), (8, .d (.int .u32 r)), (9, .d (.int .i64 ((k : Int) - 1)))], [(0, some ⟨u32s (List.replicate k 0 ++ q), true⟩)], 1⟩)
      (fun ⟨k, q, r⟩ => k + q.length = L.length ∧ Dg q ∧ r < d ∧ val q * d + r = val (L.drop k)) (fun ⟨k, q, r⟩ => k) (L.length, [], 0) [(0, 10)] ?_ ?_ ?_
    · simp [Dg, val]; omega
    · rw [Int.toNat_natCast]
      (constructor <;> simp [hl, envOk, memOk, conv, St.get, St.blk, zeros_u32])
    rintro ⟨k, q, r⟩ ⟨hk, hq, hr, hv⟩
    refine awp_seq_k fun K1 hK1 => ?_
    refine awp_sx prog_ok hP hnt [] [] [] [0, 1, 7, 8, 9, 21] (by kernel_rfl) (G := fun K => K (St.mk [(0, V.d (du L)), (1, V.d (D.int IntKind.u32 (↑d : Int))), (7, V.own 0 0 L.length 1), (8, V.d (D.int IntKind.u32 (↑r : Int))), (9, V.d (D.int IntKind.i64 ((↑k : Int) - (1 : Int)))), (21, V.d (D.bool (decide ((↑k : Int) - (1 : Int) ≥ (0 : Int)))))] [(0, some (Blk.mk (u32s (List.replicate k 0 ++ q)) true))] 3)) (fun K => by kernel_rfl) ?_
    refine awp_cond rfl (fun e => awp_skip (hK1 _ ?_)) (fun e => awp_exit ⟨q, [(0, 0)], ?_, ?_⟩)
    · simp at e
      obtain ⟨j, rfl⟩ : ∃ j, k = j + 1 := ⟨k - 1, by omega⟩
      obtain ⟨x, hx⟩ := get_ex (l := L) (i := j) (by omega)
      have hx32 := dg_get hDg hx
      have hdr : L.drop j = x :: L.drop (j + 1) := by
        rw [List.getElem?_eq_some_iff] at hx
        obtain ⟨h1, h2⟩ := hx
        rw [← h2]; exact List.drop_eq_getElem_cons h1
      have hdv := div32_fn r x d hr hx32 h1
      obtain ⟨g, hg⟩ : ∃ g, g = (r * 4294967296 + x) / d := ⟨_, rfl⟩
      obtain ⟨s, hs⟩ : ∃ s, s = (r * 4294967296 + x) % d := ⟨_, rfl⟩
      have hgs : g * d + s = r * 4294967296 + x := by rw [hg, hs, Nat.mul_comm]; exact Nat.div_add_mod _ _
      have hsd : s < d := by rw [hs]; exact Nat.mod_lt _ h0
      have hg32 : g < 4294967296 := by
        rw [hg, Nat.div_lt_iff_lt_mul h0]
        have : (r + 1) * 4294967296 ≤ d * 4294967296 := Nat.mul_le_mul_right _ hr
        omega
      rw [← hg, ← hs] at hdv
      have ej : ((j + 1 : Nat) : Int) - 1 = (j : Nat) := by omega
      rw [ej]
      refine awp_seq_k fun K2 hK2 => ?_
      refine awp_block ?_
      refine awp_x prog_ok hP hnt [] [.val (.tup [.d (.int .u32 g), .d (.int .u32 s)])] [some [.int .u32 x]] [0, 1, 7, 8, 9] (by kernel_rfl) (G := fun K => ((0 : Int) ≤ (↑j : Int) ∧ (↑j : Int) < (↑L.length : Int) ∧ ((↑j : Int).toNat + 1) * 1 ≤ (u32s L).length) ∧ (List.drop ((↑j : Int).toNat * 1) (u32s L))[0]? = some (D.int IntKind.u32 (↑x : Int)) ∧ Fn Try.prog 260 [V.d (D.int IntKind.u32 (↑r : Int)), V.d (D.int IntKind.u32 (↑x : Int)), V.d (D.int IntKind.u32 (↑d : Int))] [] (V.tup [V.d (D.int IntKind.u32 (↑g : Int)), V.d (D.int IntKind.u32 (↑s : Int))]) [] ∧ ((0 : Int) ≤ (↑j : Int) ∧ (↑j : Int) < (↑L.length : Int)) ∧ 0 + (↑j : Int).toNat * 1 + [D.int IntKind.u32 (↑g : Int)].length ≤ (u32s (List.replicate (j + 1) 0 ++ q)).length ∧ K (St.mk [(0, V.d (du L)), (1, V.d (D.int IntKind.u32 (↑d : Int))), (7, V.own 0 0 L.length 1), (8, V.d (D.int IntKind.u32 (↑s : Int))), (9, V.d (D.int IntKind.i64 (↑j : Int)))] [(0, some (Blk.mk (setCells (u32s (List.replicate (j + 1) 0 ++ q)) (0 + (↑j : Int).toNat * 1) [D.int IntKind.u32 (↑g : Int)]) true))] 18)) (fun K => by kernel_rfl) ?_
      refine ⟨⟨by omega, by omega, by simp; omega⟩, by simp [hx], hdv, ⟨by omega, by omega⟩, by simp, hK2 _ ?_⟩
      refine awp_x prog_ok hP hnt [(23, .int .i64 ((j : Int) - 1))] [] [] [0, 1, 7, 8, 9] (by kernel_rfl) (G := fun K => IntKind.i64.wrap ((↑j : Int) - (1 : Int)) = (↑j : Int) - (1 : Int) ∧ K (St.mk [(0, V.d (du L)), (1, V.d (D.int IntKind.u32 (↑d : Int))), (7, V.own 0 0 L.length 1), (8, V.d (D.int IntKind.u32 (↑s : Int))), (9, V.d (D.int IntKind.i64 ((↑j : Int) - (1 : Int))))] [(0, some (Blk.mk (setCells (u32s (List.replicate (j + 1) 0 ++ q)) (0 + (↑j : Int).toNat * 1) [D.int IntKind.u32 (↑g : Int)]) true))] 21)) (fun K => by kernel_rfl) ?_
      refine ⟨by rw [w64] <;> omega, (j, g :: q, s), [(0, 0)], ⟨⟨by simp; omega, ?_, hsd, ?_⟩, by show j < j + 1; omega⟩, ?_⟩
      · intro y hy
        rcases List.mem_cons.1 hy with rfl | hy
        · exact hg32
        · exact hq y hy
      · rw [hdr]
        show (g + 4294967296 * val q) * d + s = x + 4294967296 * val (L.drop (j + 1))
        rw [← hv]; grind
      · rw [Int.toNat_natCast, Nat.zero_add, Nat.mul_one, setCells_u32, set_rep]
        (constructor <;> simp [hl, envOk, memOk, conv, St.get, St.blk])
    · simp at e
      have hk0 : k = 0 := by omega
      subst hk0
      simp [hvd] at hv
      refine ⟨by omega, hq, ?_⟩
      rw [← hv, Nat.mul_comm, Nat.mul_add_div h0, Nat.div_eq_of_lt hr]; rfl
    · simp at e
      have hk0 : k = 0 := by omega
      subst hk0
      simp [hvd] at hv
      have : n % d = r := by rw [← hv, Nat.mul_comm, Nat.mul_add_mod, Nat.mod_eq_of_lt hr]
      rw [this]
      (constructor <;> simp [hl, envOk, memOk, conv, St.get, St.blk])
  intro q ⟨hq1, hq2, hq3⟩
  have ht2 := trim_fn q (by omega) hq2
  rw [hq3] at ht2
  refine awp_sx prog_ok hP hnt [] [.val (.d (du (dig (n / d))))] [] [4, 5, 6] (by kernel_rfl) (G := fun K => Fn Try.prog 212 [V.d (D.lst L.length (List.take (L.length * 1) (List.drop 0 (u32s q))))] [] (V.d (du (dig (n / d)))) [] ∧ K (St.mk [(4, V.d (du (dig (n / d)))), (5, V.d (D.int IntKind.u32 (↑(n % d) : Int))), (6, V.d (D.bool true))] [(0, some (Blk.mk (u32s q) false))] 7)) (fun K => by kernel_rfl) ?_
  rw [Nat.mul_one, own_du hq1]
  exact ⟨ht2, awp_ret ⟨.inl rfl, .inl ⟨rfl, trivial⟩⟩⟩
end Go.Abs
