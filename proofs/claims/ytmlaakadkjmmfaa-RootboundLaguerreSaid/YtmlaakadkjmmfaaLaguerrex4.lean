import Derived.WalkKit
import Derived.Orders
import Derived.Below
import Derived.Laws.AppendOwn
import Derived.Calls
import Derived.OpenShut
import Derived.ChangeArms
import Derived.ChangeShapes
import Derived.WideShapes
import Derived.KernelRfl
import Derived.JoinedOf
import Derived.Scope
import Derived.ProofKit
import Derived.ShutString
import Derived.ChangeOld
import Derived.SizedLaws
import Derived.Test.YtmlaakadkjmmfaaProg
import Derived.Test.YtmlaakadkjmmfaaLaguerrex0
import Derived.Test.YtmlaakadkjmmfaaLaguerrex1
import Derived.Test.YtmlaakadkjmmfaaLaguerrex2
import Derived.Test.YtmlaakadkjmmfaaLaguerrex3
/- Texts that the proof of RootboundLaguerre leans on: what is told of the functions it reaches. -/
set_option linter.unusedVariables false
set_option linter.unusedSimpArgs false
namespace Go.Abs
open Go Go.Proofs
set_option maxRecDepth 100000

theorem dzero_fn (s : Bool) (l : List Nat) (h : l.length ≤ 2 ^ 40) (hd : Dg l) : Fn Try.prog 234 [.agg (ic s l)] [] (.d (.bool (decide (val l = 0)))) [] := by
  refine fn0 (nt := 6) (res := [.tmp 2]) Try.func234 rfl (by decide) rfl rfl rfl rfl ?_
  intro Cx hP hnt hl
  have h1 := isZero_fn l (by omega) hd
  refine awp_sx prog_ok hP hnt [] [] [] [1] (by kernel_rfl) (G := fun K => K (St.mk [(1, V.ptr 0 0)] [(0, some (Blk.mk [D.bool s, du l] true))] 2)) (fun K => by kernel_rfl) ?_
  refine awp_sx prog_ok hP hnt [] [.val (.d (.bool (decide (val l = 0))))] [some [du l]] [2] (by kernel_rfl) (G := fun K => [D.bool s, du l][1]? = some (du l) ∧ Fn Try.prog 187 [V.d (du l)] [] (V.d (D.bool (decide (val l = 0)))) [] ∧ K (St.mk [(2, V.d (D.bool (decide (val l = 0))))] [(0, some (Blk.mk [D.bool s, du l] true))] 6)) (fun K => by kernel_rfl) ?_
  exact ⟨rfl, h1, awp_ret ⟨.inl rfl, retD rfl⟩⟩

/-- results: two variables of two cells and a plain one -/
theorem retCCT {T : Tab} {c1 c2 t b1 b2 u : Nat} {s : St} {cs1 cs2 : List D} {l1 l2 : Bool} {d : D} (h1 : s.get c1 = .ptr b1 0) (h2 : s.blk b1 = some ⟨cs1, l1⟩) (h3 : s.get c2 = .ptr b2 0) (h4 : s.blk b2 = some ⟨cs2, l2⟩) (h5 : s.get u = .d d)
    (ha : Tab.agg T t = true) (hs1 : T.size t = cs1.length) (hs2 : T.size t = cs2.length) : RetOk T [.cell c1 t, .cell c2 t, .tmp u] (.tup [.agg cs1, .agg cs2, .d d]) [] s := by
  unfold RetOk evalRes
  rw [h1]
  simp only [h2, ha, if_true, evalRes, h3, h4, h5]
  refine ⟨by omega, by omega, .inl ⟨?_, trivial⟩⟩
  rw [List.drop_zero, List.drop_zero, hs1, List.take_of_length_le (Nat.le_refl _), ← hs1, hs2, List.take_of_length_le (Nat.le_refl _)]
  rfl
theorem sgn_tdiv (s t : Bool) (m n : Nat) : (sgn s m).tdiv (sgn t n) = sgn (s != t) (m / n) := by
  have e : (m : Int).tdiv n = (m / n : Nat) := rfl
  cases s <;> cases t <;> simp [sgn, Int.tdiv_neg, Int.neg_tdiv, e]
theorem sgn_tmod (s t : Bool) (m n : Nat) : (sgn s m).tmod (sgn t n) = sgn s (m % n) := by
  have e : (m : Int).tmod n = (m % n : Nat) := rfl
  cases s <;> cases t <;> simp [sgn, Int.tmod_neg, Int.neg_tmod, e]

theorem quo_fn (s t : Bool) (l m : List Nat) (hl1 : l.length ≤ 2 ^ 38) (hm1 : m.length ≤ 2 ^ 38) (dl : Dg l) (dm : Dg m) (h0 : val m ≠ 0) :
    Fn Try.prog 233 [.agg (ic s l), .agg (ic t m)] [] (.tup [.agg (iz ((ival s l).tdiv (ival t m))), .agg (iz ((ival s l).tmod (ival t m))), .d (.int .i64 0)]) [] := by
  refine fn0 (nt := 32) (res := [.cell 4 46, .cell 5 46, .tmp 6]) Try.func233 rfl (by decide) rfl rfl rfl rfl ?_
  intro Cx hP hnt hl
  have hz := dzero_fn t m (by omega) dm
  rw [decide_eq_false h0] at hz
  have hlong := long_fn l m hl1 hm1 dl dm h0
  refine awp_sx prog_ok hP hnt [] [] [] [2, 3, 4, 5] (by kernel_rfl) (G := fun K => K (St.mk [(2, V.ptr 0 0), (3, V.ptr 1 0), (4, V.ptr 2 0), (5, V.ptr 3 0)] [(0, some (Blk.mk [D.bool s, du l] true)), (1, some (Blk.mk [D.bool t, du m] true)), (2, some (Blk.mk [D.bool false, D.lst 0 []] true)), (3, some (Blk.mk [D.bool false, D.lst 0 []] true))] 5)) (fun K => by kernel_rfl) ?_
  refine awp_seq_k fun K hK => ?_
  refine awp_sx prog_ok hP hnt [] [.val (.d (.bool false))] [] [2, 3, 4, 5, 10] (by kernel_rfl) (G := fun K => Fn Try.prog 234 [V.agg [D.bool t, du m]] [] (V.d (D.bool false)) [] ∧ K (St.mk [(2, V.ptr 0 0), (3, V.ptr 1 0), (4, V.ptr 2 0), (5, V.ptr 3 0), (10, V.d (D.bool false))] [(0, some (Blk.mk [D.bool s, du l] true)), (1, some (Blk.mk [D.bool t, du m] true)), (2, some (Blk.mk [D.bool false, D.lst 0 []] true)), (3, some (Blk.mk [D.bool false, D.lst 0 []] true))] 7)) (fun K => by kernel_rfl) ?_
  have hva := val_lt dl
  have hq : (dig (val l / val m)).length ≤ 2 ^ 40 := Nat.le_trans (dig_len (Nat.lt_of_le_of_lt (Nat.div_le_self _ _) hva)) (by omega)
  have hr : (dig (val l % val m)).length ≤ 2 ^ 40 := Nat.le_trans (dig_len (Nat.lt_of_le_of_lt (Nat.mod_le _ _) hva)) (by omega)
  have f1 := from_fn (s != t) (dig (val l / val m)) hq (dig_lt _)
  have f2 := from_fn s (dig (val l % val m)) hr (dig_lt _)
  rw [show ival (s != t) (dig (val l / val m)) = (ival s l).tdiv (ival t m) from by unfold ival; rw [val_dig, sgn_tdiv]] at f1
  rw [show ival s (dig (val l % val m)) = (ival s l).tmod (ival t m) from by unfold ival; rw [val_dig, sgn_tmod]] at f2
  refine ⟨hz, awp_cond (b := false) rfl nofun fun _ => awp_skip (hK _ ?_)⟩
  refine awp_sx prog_ok hP hnt [] [.val (.tup [.d (du (dig (val l / val m))), .d (du (dig (val l % val m)))])] [some [du l], some [du m]] [2, 3, 4, 5, 7, 8] (by kernel_rfl) (G := fun K => [D.bool s, du l][1]? = some (du l) ∧ [D.bool t, du m][1]? = some (du m) ∧ Fn Try.prog 240 [V.d (du l), V.d (du m)] [] (V.tup [V.d (du (dig (val l / val m))), V.d (du (dig (val l % val m)))]) [] ∧ K (St.mk [(2, V.ptr 0 0), (3, V.ptr 1 0), (4, V.ptr 2 0), (5, V.ptr 3 0), (7, V.d (du (dig (val l / val m)))), (8, V.d (du (dig (val l % val m))))] [(0, some (Blk.mk [D.bool s, du l] true)), (1, some (Blk.mk [D.bool t, du m] true)), (2, some (Blk.mk [D.bool false, D.lst 0 []] true)), (3, some (Blk.mk [D.bool false, D.lst 0 []] true))] 17)) (fun K => by kernel_rfl) ?_
  refine ⟨rfl, rfl, hlong, ?_⟩
  obtain ⟨Q, hQ⟩ : ∃ Q, Q = (ival s l).tdiv (ival t m) := ⟨_, rfl⟩
  obtain ⟨R, hR⟩ : ∃ R, R = (ival s l).tmod (ival t m) := ⟨_, rfl⟩
  rw [← hQ] at f1 ⊢
  rw [← hR] at f2 ⊢
  refine awp_sx prog_ok hP hnt [(25, .bool (s != t))] [.val (.agg (iz Q)), .val (.agg (iz R))] [some [.bool s], some [.bool t], some [.bool s]] [4, 5, 6] (by kernel_rfl) (G := fun K => [D.bool s, du l][0]? = some (D.bool s) ∧ [D.bool t, du m][0]? = some (D.bool t) ∧ (!s == t) = (s != t) ∧ Fn Try.prog 182 [V.d (D.bool (s != t)), V.d (du (dig (val l / val m)))] [] (V.agg [D.bool (decide (Q < (0 : Int))), du (dig Q.natAbs)]) [] ∧ [D.bool s, du l][0]? = some (D.bool s) ∧ Fn Try.prog 182 [V.d (D.bool s), V.d (du (dig (val l % val m)))] [] (V.agg [D.bool (decide (R < (0 : Int))), du (dig R.natAbs)]) [] ∧ 0 + (iz Q).length ≤ [D.bool false, D.lst 0 []].length ∧ 0 + (iz R).length ≤ [D.bool false, D.lst 0 []].length ∧ K (St.mk [(4, V.ptr 2 0), (5, V.ptr 3 0), (6, V.d (D.int IntKind.i64 (0 : Int)))] [(0, some (Blk.mk [D.bool s, du l] true)), (1, some (Blk.mk [D.bool t, du m] true)), (2, some (Blk.mk [D.bool (decide (Q < (0 : Int))), du (dig Q.natAbs)] true)), (3, some (Blk.mk [D.bool (decide (R < (0 : Int))), du (dig R.natAbs)] true))] 31)) (fun K => by kernel_rfl) ?_
  exact ⟨rfl, rfl, rfl, f1, rfl, f2, by simp [iz], by simp [iz], awp_ret ⟨.inl rfl, retCCT rfl rfl rfl rfl rfl rfl rfl rfl⟩⟩

/-- division of what is not negative -/
theorem floor_fn (l m : List Nat) (hl1 : l.length ≤ 2 ^ 38) (hm1 : m.length ≤ 2 ^ 38) (dl : Dg l) (dm : Dg m) (h0 : val m ≠ 0) :
    Fn Try.prog 189 [.agg (ic false l), .agg (ic false m)] [] (.tup [.agg (iz (val l / val m : Nat)), .agg (iz (val l % val m : Nat)), .d (.int .i64 0)]) [] := by
  refine fn0 (nt := 37) (res := [.cell 4 46, .cell 5 46, .tmp 6]) Try.func189 rfl (by decide) rfl rfl rfl rfl ?_
  intro Cx hP hnt hl
  have hq := quo_fn false false l m hl1 hm1 dl dm h0
  have eq : (ival false l).tdiv (ival false m) = (val l / val m : Nat) := rfl
  have er : (ival false l).tmod (ival false m) = (val l % val m : Nat) := rfl
  rw [eq, er] at hq
  have hva := val_lt dl
  have hr : (dig (val l % val m)).length ≤ 2 ^ 40 := Nat.le_trans (dig_len (Nat.lt_of_le_of_lt (Nat.mod_le _ _) hva)) (by omega)
  obtain ⟨Q, hQ⟩ : ∃ Q, Q = val l / val m := ⟨_, rfl⟩
  obtain ⟨R, hR⟩ : ∃ R, R = val l % val m := ⟨_, rfl⟩
  rw [← hQ, ← hR] at hq ⊢
  rw [← hR] at hr
  have hz := dzero_fn false (dig R) hr (dig_lt _)
  rw [val_dig] at hz
  have hiz : ic false (dig R) = iz (R : Int) := by rw [iz_ic, decide_eq_false (by omega)]; rfl
  rw [hiz] at hz
  refine awp_sx prog_ok hP hnt [] [] [] [2, 3, 4, 5] (by kernel_rfl) (G := fun K => K (St.mk [(2, V.ptr 0 0), (3, V.ptr 1 0), (4, V.ptr 2 0), (5, V.ptr 3 0)] [(0, some (Blk.mk [D.bool false, du l] true)), (1, some (Blk.mk [D.bool false, du m] true)), (2, some (Blk.mk [D.bool false, D.lst 0 []] true)), (3, some (Blk.mk [D.bool false, D.lst 0 []] true))] 5)) (fun K => by kernel_rfl) ?_
  refine awp_sx prog_ok hP hnt [] [.val (.tup [.agg (iz (Q : Nat)), .agg (iz (R : Nat)), .d (.int .i64 0)])] [some (ic false l), some (ic false m)] [3, 4, 5, 6] (by kernel_rfl) (G := fun K => ([D.bool false, du l][0]? = some (D.bool false) ∧ [D.bool false, du l][1]? = some (du l)) ∧ ([D.bool false, du m][0]? = some (D.bool false) ∧ [D.bool false, du m][1]? = some (du m)) ∧ Fn Try.prog 233 [V.agg [D.bool false, du l], V.agg [D.bool false, du m]] [] (V.tup [V.agg [D.bool (decide ((↑Q : Int) < (0 : Int))), du (dig (↑Q : Int).natAbs)], V.agg [D.bool (decide ((↑R : Int) < (0 : Int))), du (dig (↑R : Int).natAbs)], V.d (D.int IntKind.i64 (0 : Int))]) [] ∧ 0 + (iz (↑Q : Int)).length ≤ [D.bool false, D.lst 0 []].length ∧ 0 + (iz (↑R : Int)).length ≤ [D.bool false, D.lst 0 []].length ∧ K (St.mk [(3, V.ptr 1 0), (4, V.ptr 2 0), (5, V.ptr 3 0), (6, V.d (D.int IntKind.i64 (0 : Int)))] [(0, some (Blk.mk [D.bool false, du l] true)), (1, some (Blk.mk [D.bool false, du m] true)), (2, some (Blk.mk [D.bool (decide ((↑Q : Int) < (0 : Int))), du (dig (↑Q : Int).natAbs)] true)), (3, some (Blk.mk [D.bool (decide ((↑R : Int) < (0 : Int))), du (dig (↑R : Int).natAbs)] true))] 15)) (fun K => by kernel_rfl) ?_
  refine ⟨⟨rfl, rfl⟩, ⟨rfl, rfl⟩, hq, by simp [iz], by simp [iz], ?_⟩
  have hdR : decide ((R : Int) < 0) = false := decide_eq_false (by omega)
  refine awp_cut (ι := Unit) (fun _ => ⟨[(4, .ptr 0 0), (5, .ptr 1 0), (6, .d (.int .i64 0))], [(0, some ⟨iz (Q : Nat), true⟩), (1, some ⟨iz (R : Nat), true⟩)], 2⟩) (fun _ => True) ?_ ?_
  · by_cases hR0 : R = 0
    · rw [decide_eq_true hR0] at hz
      refine awp_sx prog_ok hP hnt [(15, .bool true), (19, .bool false), (20, .bool false)] [.val (.d (.bool true))] [some (iz (R : Nat))] [3, 4, 5, 6, 27] (by kernel_rfl) (G := fun K => ((0 : Int) == (0 : Int)) = true ∧ ([D.bool (decide ((↑R : Int) < (0 : Int))), du (dig (↑R : Int).natAbs)][0]? = some (D.bool (decide ((↑R : Int) < (0 : Int)))) ∧ [D.bool (decide ((↑R : Int) < (0 : Int))), du (dig (↑R : Int).natAbs)][1]? = some (du (dig (↑R : Int).natAbs))) ∧ Fn Try.prog 234 [V.agg [D.bool (decide ((↑R : Int) < (0 : Int))), du (dig (↑R : Int).natAbs)]] [] (V.d (D.bool true)) [] ∧ (!true) = false ∧ false = false ∧ K (St.mk [(3, V.ptr 1 0), (4, V.ptr 2 0), (5, V.ptr 3 0), (6, V.d (D.int IntKind.i64 (0 : Int))), (27, V.d (D.bool false))] [(0, some (Blk.mk [D.bool false, du l] true)), (1, some (Blk.mk [D.bool false, du m] true)), (2, some (Blk.mk [D.bool (decide ((↑Q : Int) < (0 : Int))), du (dig (↑Q : Int).natAbs)] true)), (3, some (Blk.mk [D.bool (decide ((↑R : Int) < (0 : Int))), du (dig (↑R : Int).natAbs)] true))] 29)) (fun K => by kernel_rfl) ?_
      refine ⟨rfl, ⟨rfl, rfl⟩, hz, rfl, rfl, awp_cond (b := false) rfl nofun fun _ => awp_skip ⟨(), [(0, 2), (1, 3)], trivial, ?_⟩⟩
      (constructor <;> simp [hl, envOk, memOk, conv, St.get, St.blk, iz])
    · rw [decide_eq_false hR0] at hz
      refine awp_sx prog_ok hP hnt [(15, .bool true), (19, .bool true), (20, .bool true), (26, .bool false)] [.val (.d (.bool false))] [some (iz (R : Nat)), some [.bool false], some [.bool false]] [3, 4, 5, 6, 27] (by kernel_rfl) (G := fun K => ((0 : Int) == (0 : Int)) = true ∧ ([D.bool (decide ((↑R : Int) < (0 : Int))), du (dig (↑R : Int).natAbs)][0]? = some (D.bool (decide ((↑R : Int) < (0 : Int)))) ∧ [D.bool (decide ((↑R : Int) < (0 : Int))), du (dig (↑R : Int).natAbs)][1]? = some (du (dig (↑R : Int).natAbs))) ∧ Fn Try.prog 234 [V.agg [D.bool (decide ((↑R : Int) < (0 : Int))), du (dig (↑R : Int).natAbs)]] [] (V.d (D.bool false)) [] ∧ (!false) = true ∧ true = true ∧ [D.bool (decide ((↑R : Int) < (0 : Int))), du (dig (↑R : Int).natAbs)][0]? = some (D.bool false) ∧ [D.bool false, du m][0]? = some (D.bool false) ∧ (!false == false) = false ∧ K (St.mk [(3, V.ptr 1 0), (4, V.ptr 2 0), (5, V.ptr 3 0), (6, V.d (D.int IntKind.i64 (0 : Int))), (27, V.d (D.bool false))] [(0, some (Blk.mk [D.bool false, du l] true)), (1, some (Blk.mk [D.bool false, du m] true)), (2, some (Blk.mk [D.bool (decide ((↑Q : Int) < (0 : Int))), du (dig (↑Q : Int).natAbs)] true)), (3, some (Blk.mk [D.bool (decide ((↑R : Int) < (0 : Int))), du (dig (↑R : Int).natAbs)] true))] 29)) (fun K => by kernel_rfl) ?_
      refine ⟨rfl, ⟨rfl, rfl⟩, hz, rfl, rfl, by rw [hdR]; rfl, rfl, rfl, awp_cond (b := false) rfl nofun fun _ => awp_skip ⟨(), [(0, 2), (1, 3)], trivial, ?_⟩⟩
      (constructor <;> simp [hl, envOk, memOk, conv, St.get, St.blk, iz])
  intro _ _
  refine awp_sx prog_ok hP hnt [] [] [some (iz (Q : Nat)), some (iz (R : Nat))] [4, 5, 6] (by kernel_rfl) (G := fun K => ((iz (↑Q : Int))[0]? = some (D.bool (decide ((↑Q : Int) < (0 : Int)))) ∧ (iz (↑Q : Int))[1]? = some (du (dig (↑Q : Int).natAbs))) ∧ ((iz (↑R : Int))[0]? = some (D.bool (decide ((↑R : Int) < (0 : Int)))) ∧ (iz (↑R : Int))[1]? = some (du (dig (↑R : Int).natAbs))) ∧ 0 + (iz (↑Q : Int)).length ≤ (iz (↑Q : Int)).length ∧ 0 + (iz (↑R : Int)).length ≤ (iz (↑R : Int)).length ∧ K (St.mk [(4, V.ptr 0 0), (5, V.ptr 1 0), (6, V.d (D.int IntKind.i64 (0 : Int)))] [(0, some (Blk.mk [D.bool (decide ((↑Q : Int) < (0 : Int))), du (dig (↑Q : Int).natAbs)] true)), (1, some (Blk.mk [D.bool (decide ((↑R : Int) < (0 : Int))), du (dig (↑R : Int).natAbs)] true))] 8)) (fun K => by kernel_rfl) ?_
  exact ⟨⟨rfl, rfl⟩, ⟨rfl, rfl⟩, by omega, by omega, awp_ret ⟨.inl rfl, retCCT rfl rfl rfl rfl rfl rfl rfl rfl⟩⟩

end Go.Abs

set_option linter.unusedVariables false
set_option linter.unusedSimpArgs false
namespace Go.Abs
open Go Go.Proofs Poly
set_option maxRecDepth 100000

noncomputable def cm (f : Poly) : Nat → Nat
  | 0 => 0
  | k + 1 => max (cm f k) (((f.c k).natAbs + f.lc.natAbs - 1) / f.lc.natAbs)
noncomputable def cauchy (f : Poly) : Nat := if f.sz < 2 then 0 else cm f (f.sz - 1) + 1

theorem iz_nat (n : Nat) : iz (n : Int) = ic false (dig n) := by rw [iz_ic, decide_eq_false (by omega)]; rfl
theorem ceil_eq {a b : Nat} (hb : 0 < b) : (if a % b = 0 then a / b else a / b + 1) = (a + b - 1) / b := by
  have h := Nat.div_add_mod a b
  have hm := Nat.mod_lt a hb
  obtain ⟨q, hq⟩ : ∃ q, q = a / b := ⟨_, rfl⟩
  obtain ⟨r, hr⟩ : ∃ r, r = a % b := ⟨_, rfl⟩
  rw [← hq, ← hr] at h
  rw [← hr] at hm
  rw [← hq, ← hr]
  split
  · rename_i h0
    rw [← h, h0, Nat.add_zero, show b * q + b - 1 = b * q + (b - 1) by omega, Nat.mul_add_div hb, Nat.div_eq_of_lt (by omega), Nat.add_zero]
  · rename_i h0
    rw [← h, show b * q + r + b - 1 = b * (q + 1) + (r - 1) by rw [Nat.mul_add]; omega, Nat.mul_add_div hb, Nat.div_eq_of_lt (by omega), Nat.add_zero]

theorem ceil_le {a b : Nat} (hb : 0 < b) : (a + b - 1) / b ≤ a := by
  rw [← ceil_eq hb]
  split
  · exact Nat.div_le_self _ _
  · rename_i h
    have hb2 : 2 ≤ b := by
      rcases Nat.lt_or_ge b 2 with h2 | h2
      · exfalso; apply h
        have : b = 1 := by omega
        subst this; exact Nat.mod_one _
      · exact h2
    have ha : 0 < a := Nat.pos_of_ne_zero fun h0 => h (by rw [h0, Nat.zero_mod])
    exact Nat.div_lt_self ha hb2
theorem cm_lt {f : Poly} {K : Nat} (h0 : f.lc ≠ 0) (h : ∀ k, (f.c k).natAbs < 2 ^ K) : ∀ k, cm f k < 2 ^ K
  | 0 => Nat.pow_pos (by omega)
  | k + 1 => by
    have h1 := cm_lt h0 h k
    have h2 := ceil_le (a := (f.c k).natAbs) (b := f.lc.natAbs) (by omega)
    have h3 := h k
    unfold cm
    omega

theorem cauchyP {i : Nat} {ps : List RI} (hi : i ≤ 12) (hp : W i ps) : Fn Try.prog 104 [.d (rp ps)] [] (.agg (iz (cauchy (pol ps) : Nat))) [] := by
  refine fn0 (nt := 54) (res := [.cell 2 46]) Try.func104 rfl (by decide) rfl rfl rfl rfl ?_
  intro Cx hP hnt hl
  have hn := normP hi hp
  obtain ⟨f, hf⟩ : ∃ f, f = pol ps := ⟨_, rfl⟩
  have hlv : Lv i f := hf ▸ hp.lv
  rw [← hf] at hn ⊢
  have hw := hlv.w
  have hdg := degP hi hw
  have hld := leadP hi hw
  rw [pol_cp] at hdg hld
  have h4 := lim4 hi
  have h2 := lim2 hi
  have hsz : f.sz ≤ 2 ^ 36 := by have := hlv.len; omega
  have hz0 := iOf_fn 0 (by decide) (by decide)
  have hz1 := iOf_fn 1 (by decide) (by decide)
  refine awp_sx prog_ok hP hnt [] [] [] [0, 2] (by kernel_rfl) (G := fun K => K (St.mk [(0, V.d (rp ps)), (2, V.ptr 0 0)] [(0, some (Blk.mk [D.bool false, D.lst 0 []] true))] 1)) (fun K => by kernel_rfl) ?_
  refine awp_sx prog_ok hP hnt [] [.val (.d (rp (cp f)))] [] [2, 3] (by kernel_rfl) (G := fun K => Fn Try.prog 63 [V.d (rp ps)] [] (V.d (rp (cp f))) [] ∧ K (St.mk [(2, V.ptr 0 0), (3, V.d (rp (cp f)))] [(0, some (Blk.mk [D.bool false, D.lst 0 []] true))] 4)) (fun K => by kernel_rfl) ?_
  refine ⟨hn, ?_⟩
  refine awp_sx prog_ok hP hnt [] [.val (.d (.int .i64 ((f.sz : Int) - 1)))] [] [2, 3, 4] (by kernel_rfl) (G := fun K => Fn Try.prog 68 [V.d (rp (cp f))] [] (V.d (D.int IntKind.i64 ((↑f.sz : Int) - (1 : Int)))) [] ∧ K (St.mk [(2, V.ptr 0 0), (3, V.d (rp (cp f))), (4, V.d (D.int IntKind.i64 ((↑f.sz : Int) - (1 : Int))))] [(0, some (Blk.mk [D.bool false, D.lst 0 []] true))] 7)) (fun K => by kernel_rfl) ?_
  refine ⟨hdg, ?_⟩
  refine awp_seq_k fun K hK => ?_
  refine awp_sx prog_ok hP hnt [] [] [] [2, 3, 4, 17] (by kernel_rfl) (G := fun K => K (St.mk [(2, V.ptr 0 0), (3, V.d (rp (cp f))), (4, V.d (D.int IntKind.i64 ((↑f.sz : Int) - (1 : Int)))), (17, V.d (D.bool (decide ((↑f.sz : Int) - (1 : Int) < (1 : Int)))))] [(0, some (Blk.mk [D.bool false, D.lst 0 []] true))] 9)) (fun K => by kernel_rfl) ?_
  refine awp_cond rfl (fun e => ?_) (fun e => awp_skip (hK _ ?_))
  · simp at e
    refine awp_sx prog_ok hP hnt [] [.val (.agg (iz 0))] [] [2] (by kernel_rfl) (G := fun K => Fn Try.prog 74 [V.d (D.int IntKind.i64 (0 : Int))] [] (V.agg [D.bool (decide ((0 : Int) < (0 : Int))), du (dig (Int.natAbs (0 : Int)))]) [] ∧ 2 ≤ [D.bool false, D.lst 0 []].length ∧ K (St.mk [(2, V.ptr 0 0)] [(0, some (Blk.mk [D.bool (decide ((0 : Int) < (0 : Int))), du (dig (Int.natAbs (0 : Int)))] true))] 11)) (fun K => by kernel_rfl) ?_
    have h0 : cauchy f = 0 := by unfold cauchy; rw [if_pos (by omega)]
    rw [h0]
    exact ⟨hz0, by simp [iz], awp_ret ⟨.inl rfl, retC (l := true) rfl rfl rfl rfl⟩⟩
  simp at e
  obtain ⟨n, hn0⟩ : ∃ n, n + 1 = f.sz := ⟨f.sz - 1, by omega⟩
  have hlc0 : f.lc ≠ 0 := lc_ne (fun h => by have := eq_zero.1 h; omega)
  have en : (f.sz : Int) - 1 = (n : Nat) := by omega
  rw [en]
  have hbit : ∀ z : Int, z.natAbs < 4294967296 ^ (40 * 4 ^ i) → (dig z.natAbs).length ≤ 2 ^ 37 := fun z hz => Nat.le_trans (dig_len hz) (by omega)
  have hlcb : f.lc.natAbs < 4294967296 ^ (40 * 4 ^ i) := hlv.ok _
  have hldl := hbit _ hlcb
  obtain ⟨L, hL⟩ : ∃ L, L = f.lc.natAbs := ⟨_, rfl⟩
  have hL0 : 0 < L := by omega
  have hab := iabs_fn (decide (f.lc < 0)) (dig f.lc.natAbs) (by omega) (dig_lt _)
  rw [ival_iz, ← iz_ic] at hab
  rw [← hL] at hab hldl hlcb
  refine awp_sx prog_ok hP hnt [] [.val (.agg (iz f.lc)), .val (.agg (iz (L : Nat)))] [] [2, 3, 4, 5] (by kernel_rfl) (G := fun K => Fn Try.prog 62 [V.d (rp (cp f))] [] (V.agg [D.bool (decide (f.lc < (0 : Int))), du (dig f.lc.natAbs)]) [] ∧ Fn Try.prog 168 [V.agg [D.bool (decide (f.lc < (0 : Int))), du (dig f.lc.natAbs)]] [] (V.agg [D.bool (decide ((↑L : Int) < (0 : Int))), du (dig (↑L : Int).natAbs)]) [] ∧ 0 + (iz (↑L : Int)).length ≤ (TI.mk (Kind.struct [(0, 1), (1, 1)]) 2 32 [D.bool false, D.lst 0 []]).zero.length ∧ K (St.mk [(2, V.ptr 0 0), (3, V.d (rp (cp f))), (4, V.d (D.int IntKind.i64 (↑n : Int))), (5, V.ptr 12 0)] [(0, some (Blk.mk [D.bool false, D.lst 0 []] true)), (12, some (Blk.mk [D.bool (decide ((↑L : Int) < (0 : Int))), du (dig (↑L : Int).natAbs)] true))] 14)) (fun K => by kernel_rfl) ?_
  refine ⟨hld, hab, by simp [iz], ?_⟩
  refine awp_sx prog_ok hP hnt [] [.val (.agg (iz 0))] [] [2, 3, 4, 5, 6] (by kernel_rfl) (G := fun K => Fn Try.prog 74 [V.d (D.int IntKind.i64 (0 : Int))] [] (V.agg [D.bool (decide ((0 : Int) < (0 : Int))), du (dig (Int.natAbs (0 : Int)))]) [] ∧ 2 ≤ (TI.mk (Kind.struct [(0, 1), (1, 1)]) 2 32 [D.bool false, D.lst 0 []]).zero.length ∧ K (St.mk [(2, V.ptr 0 0), (3, V.d (rp (cp f))), (4, V.d (D.int IntKind.i64 (↑n : Int))), (5, V.ptr 12 0), (6, V.ptr 15 0)] [(0, some (Blk.mk [D.bool false, D.lst 0 []] true)), (12, some (Blk.mk [D.bool (decide ((↑L : Int) < (0 : Int))), du (dig (↑L : Int).natAbs)] true)), (15, some (Blk.mk [D.bool (decide ((0 : Int) < (0 : Int))), du (dig (Int.natAbs (0 : Int)))] true))] 17)) (fun K => by kernel_rfl) ?_
  refine ⟨hz0, by simp [iz], ?_⟩
  have hcms : ∀ k, cm f k < 2 ^ (1280 * 4 ^ i) := cm_lt hlc0 hlv.bits
  have hcmz : ∀ k, ((cm f k : Nat) : Int).natAbs < 2 ^ (1280 * 4 ^ i) := fun k => by rw [Int.natAbs_natCast]; exact hcms k
  have hlb := lvbits hi
  obtain ⟨KB, hKB⟩ : ∃ KB, KB = 1280 * 4 ^ i := ⟨_, rfl⟩
  rw [← hKB] at hcms hcmz hlb
  have hone : (1 : Int).natAbs < 2 ^ 1 := by decide
  have hc : cauchy f = cm f n + 1 := by unfold cauchy; rw [if_neg (by omega), show f.sz - 1 = n by omega]
  have hps : ∀ k, k < n → ((cp f).take n)[k]? = some (riz (f.c k)) := fun k hk => by
    rw [List.getElem?_take, if_pos hk, cp_get f (by omega)]
  refine awp_cut (ι := Unit) (fun _ => ⟨[(2, .ptr 0 0), (6, .ptr 2 0)], [(0, some ⟨[.bool false, .lst 0 []], true⟩), (2, some ⟨iz (cm f n : Nat), true⟩)], 3⟩) (fun _ => True) ?_ ?_
  · refine awp_sx prog_ok hP hnt [] [] [] [2, 5, 6, 25, 26, 27] (by kernel_rfl) (G := fun K => ((0 : Int) ≤ (↑n : Int) ∧ (↑n : Int) ≤ (↑(cp f).length : Int)) ∧ K (St.mk [(2, V.ptr 0 0), (5, V.ptr 12 0), (6, V.ptr 15 0), (25, V.d (D.lst (↑n : Int).toNat (List.take ((↑n : Int).toNat * 2) (rc (cp f))))), (26, V.d (D.int IntKind.i64 (↑(↑n : Int).toNat : Int))), (27, V.d (D.int IntKind.i64 (0 : Int)))] [(0, some (Blk.mk [D.bool false, D.lst 0 []] true)), (12, some (Blk.mk [D.bool (decide ((↑L : Int) < (0 : Int))), du (dig (↑L : Int).natAbs)] true)), (15, some (Blk.mk [D.bool (decide ((0 : Int) < (0 : Int))), du (dig (Int.natAbs (0 : Int)))] true))] 22)) (fun K => by kernel_rfl) ?_
    refine ⟨⟨by omega, by simp; omega⟩, ?_⟩
    refine awp_block ?_
    refine awp_loop (ι := Nat) (fun k => ⟨[(2, .ptr 0 0), (5, .ptr 1 0), (6, .ptr 2 0), (25, .d (.lst n (rc ((cp f).take n)))), (26, .d (.int .i64 n)), (27, .d (.int .i64 k))], [(0, some ⟨[.bool false, .lst 0 []], true⟩), (1, some ⟨iz (L : Nat), true⟩), (2, some ⟨iz (cm f k : Nat), true⟩)], 3⟩)
      (fun k => k ≤ n) (fun k => n - k) 0 [(0, 0), (1, 12), (2, 15)] (by omega) ?_ ?_
    · rw [Int.toNat_natCast, rc_take]
      (constructor <;> simp [hl, envOk, memOk, conv, St.get, St.blk, iz, cm])
    intro k hk
    refine awp_sx prog_ok hP hnt [] [] [] [2, 5, 6, 25, 26, 27, 28] (by kernel_rfl) (G := fun K => K (St.mk [(2, V.ptr 0 0), (5, V.ptr 1 0), (6, V.ptr 2 0), (25, V.d (D.lst n (rc (List.take n (cp f))))), (26, V.d (D.int IntKind.i64 (↑n : Int))), (27, V.d (D.int IntKind.i64 (↑k : Int))), (28, V.d (D.bool (decide ((↑k : Int) < (↑n : Int)))))] [(0, some (Blk.mk [D.bool false, D.lst 0 []] true)), (1, some (Blk.mk [D.bool (decide ((↑L : Int) < (0 : Int))), du (dig (↑L : Int).natAbs)] true)), (2, some (Blk.mk [D.bool (decide ((↑(cm f k) : Int) < (0 : Int))), du (dig (↑(cm f k) : Int).natAbs)] true))] 4)) (fun K => by kernel_rfl) ?_
    refine awp_seq_k fun K1 hK1 => ?_
    refine awp_cond rfl (fun e => awp_skip (hK1 _ ?_)) (fun e => awp_exit ⟨(), [(0, 0), (2, 2)], trivial, ?_⟩)
    · simp at e
      refine awp_seq_k fun K2 hK2 => ?_
      refine awp_block ?_
      have hk1 := hps k e
      refine awp_sx prog_ok hP hnt [] [] [some (iz (f.c k))] [2, 5, 6, 8, 25, 26, 27] (by kernel_rfl) (G := fun K => ((0 : Int) ≤ (↑k : Int) ∧ (↑k : Int) < (↑n : Int) ∧ ((↑k : Int).toNat + 1) * 2 ≤ (rc (List.take n (cp f))).length) ∧ ((List.drop ((↑k : Int).toNat * 2) (rc (List.take n (cp f))))[0]? = some (D.bool (decide (f.c k < (0 : Int)))) ∧ (List.drop ((↑k : Int).toNat * 2) (rc (List.take n (cp f))))[1]? = some (du (dig (f.c k).natAbs))) ∧ 0 + (iz (f.c k)).length ≤ (TI.mk (Kind.struct [(0, 1), (1, 1)]) 2 32 [D.bool false, D.lst 0 []]).zero.length ∧ K (St.mk [(2, V.ptr 0 0), (5, V.ptr 1 0), (6, V.ptr 2 0), (25, V.d (D.lst n (rc (List.take n (cp f))))), (26, V.d (D.int IntKind.i64 (↑n : Int))), (27, V.d (D.int IntKind.i64 (↑k : Int))), (8, V.ptr 6 0)] [(0, some (Blk.mk [D.bool false, D.lst 0 []] true)), (1, some (Blk.mk [D.bool (decide ((↑L : Int) < (0 : Int))), du (dig (↑L : Int).natAbs)] true)), (2, some (Blk.mk [D.bool (decide ((↑(cm f k) : Int) < (0 : Int))), du (dig (↑(cm f k) : Int).natAbs)] true)), (6, some (Blk.mk [D.bool (decide (f.c k < (0 : Int))), du (dig (f.c k).natAbs)] true))] 8)) (fun K => by kernel_rfl) ?_
      have hdz := hbit _ (hlv.ok k)
      have hrd : (rc (List.take n (cp f))).drop ((k : Int).toNat * 2) = .bool (riz (f.c k)).1 :: du (riz (f.c k)).2 :: rc (((cp f).take n).drop (k + 1)) := rc_drop0 hk1
      have hpl : ((cp f).take n).length = n := by rw [List.length_take, cp_len]; omega
      rw [hrd]
      refine ⟨⟨by omega, by omega, by rw [rc_len, hpl]; omega⟩, ⟨rfl, rfl⟩, by simp [iz], ?_⟩
      obtain ⟨z, hz⟩ : ∃ z, z = (f.c k).natAbs := ⟨_, rfl⟩
      have habz := iabs_fn (decide (f.c k < 0)) (dig (f.c k).natAbs) (by omega) (dig_lt _)
      rw [ival_iz, ← iz_ic] at habz
      rw [← hz] at habz hdz
      have hfl := floor_fn (dig z) (dig L) (by omega) (by omega) (dig_lt _) (dig_lt _) (by rw [val_dig]; omega)
      rw [val_dig, val_dig, ← iz_nat, ← iz_nat] at hfl
      have hzb : z / L < 2 ^ KB := Nat.lt_of_le_of_lt (Nat.div_le_self _ _) (by rw [hz, hKB]; exact hlv.bits k)
      obtain ⟨Q, hQ⟩ : ∃ Q, Q = z / L := ⟨_, rfl⟩
      obtain ⟨R, hR⟩ : ∃ R, R = z % L := ⟨_, rfl⟩
      have hceil : (if R = 0 then Q else Q + 1) = (z + L - 1) / L := by rw [hQ, hR]; exact ceil_eq hL0
      have hRL : R < L := by rw [hR]; exact Nat.mod_lt _ hL0
      rw [← hQ, ← hR] at hfl
      rw [← hQ] at hzb
      have hsg := sign_fn false (dig R) (by have := dig_len (n := R) (k := 40 * 4 ^ i) (by omega); omega) (dig_lt _)
      rw [show ival false (dig R) = (R : Int) from by unfold ival sgn; rw [val_dig]; rfl, ← iz_nat] at hsg
      have hcml := ceil_le (a := z) (b := L) hL0
      have hzl : z < 2 ^ KB := by rw [hz, hKB]; exact hlv.bits k
      refine awp_sx prog_ok hP hnt [] [.val (.agg (iz (z : Nat))), .val (.tup [.agg (iz (Q : Nat)), .agg (iz (R : Nat)), .d (.int .i64 0)])] [some (iz (f.c k)), some (iz (L : Nat))] [2, 5, 6, 9, 10, 25, 26, 27] (by kernel_rfl) (G := fun K => ([D.bool (decide (f.c k < (0 : Int))), du (dig (f.c k).natAbs)][0]? = some (D.bool (decide (f.c k < (0 : Int)))) ∧ [D.bool (decide (f.c k < (0 : Int))), du (dig (f.c k).natAbs)][1]? = some (du (dig (f.c k).natAbs))) ∧ Fn Try.prog 168 [V.agg [D.bool (decide (f.c k < (0 : Int))), du (dig (f.c k).natAbs)]] [] (V.agg [D.bool (decide ((↑z : Int) < (0 : Int))), du (dig (↑z : Int).natAbs)]) [] ∧ ([D.bool (decide ((↑L : Int) < (0 : Int))), du (dig (↑L : Int).natAbs)][0]? = some (D.bool (decide ((↑L : Int) < (0 : Int)))) ∧ [D.bool (decide ((↑L : Int) < (0 : Int))), du (dig (↑L : Int).natAbs)][1]? = some (du (dig (↑L : Int).natAbs))) ∧ Fn Try.prog 189 [V.agg [D.bool (decide ((↑z : Int) < (0 : Int))), du (dig (↑z : Int).natAbs)], V.agg [D.bool (decide ((↑L : Int) < (0 : Int))), du (dig (↑L : Int).natAbs)]] [] (V.tup [V.agg [D.bool (decide ((↑Q : Int) < (0 : Int))), du (dig (↑Q : Int).natAbs)], V.agg [D.bool (decide ((↑R : Int) < (0 : Int))), du (dig (↑R : Int).natAbs)], V.d (D.int IntKind.i64 (0 : Int))]) [] ∧ 0 + (iz (↑Q : Int)).length ≤ (TI.mk (Kind.struct [(0, 1), (1, 1)]) 2 32 [D.bool false, D.lst 0 []]).zero.length ∧ 0 + (iz (↑R : Int)).length ≤ (TI.mk (Kind.struct [(0, 1), (1, 1)]) 2 32 [D.bool false, D.lst 0 []]).zero.length ∧ K (St.mk [(2, V.ptr 0 0), (5, V.ptr 1 0), (6, V.ptr 2 0), (25, V.d (D.lst n (rc (List.take n (cp f))))), (26, V.d (D.int IntKind.i64 (↑n : Int))), (27, V.d (D.int IntKind.i64 (↑k : Int))), (9, V.ptr 16 0), (10, V.ptr 17 0)] [(0, some (Blk.mk [D.bool false, D.lst 0 []] true)), (1, some (Blk.mk [D.bool (decide ((↑L : Int) < (0 : Int))), du (dig (↑L : Int).natAbs)] true)), (2, some (Blk.mk [D.bool (decide ((↑(cm f k) : Int) < (0 : Int))), du (dig (↑(cm f k) : Int).natAbs)] true)), (6, some (Blk.mk [D.bool (decide (f.c k < (0 : Int))), du (dig (f.c k).natAbs)] true)), (16, some (Blk.mk [D.bool (decide ((↑Q : Int) < (0 : Int))), du (dig (↑Q : Int).natAbs)] true)), (17, some (Blk.mk [D.bool (decide ((↑R : Int) < (0 : Int))), du (dig (↑R : Int).natAbs)] true))] 21)) (fun K => by kernel_rfl) ?_
      refine ⟨⟨rfl, rfl⟩, habz, ⟨rfl, rfl⟩, hfl, by simp [iz], by simp [iz], ?_⟩
      obtain ⟨c, hc'⟩ : ∃ c, c = (z + L - 1) / L := ⟨_, rfl⟩
      rw [← hc'] at hceil hcml
      refine awp_cut (ι := Unit) (fun _ => ⟨[(2, .ptr 0 0), (5, .ptr 1 0), (6, .ptr 2 0), (9, .ptr 3 0), (25, .d (.lst n (rc ((cp f).take n)))), (26, .d (.int .i64 n)), (27, .d (.int .i64 k))], [(0, some ⟨[.bool false, .lst 0 []], true⟩), (1, some ⟨iz (L : Nat), true⟩), (2, some ⟨iz (cm f k : Nat), true⟩), (3, some ⟨iz (c : Nat), true⟩)], 4⟩) (fun _ => True) ?_ ?_
      · refine awp_sx prog_ok hP hnt [] [.val (.d (.int .i64 (R : Int).sign))] [some (iz (R : Nat))] [2, 5, 6, 9, 25, 26, 27, 41] (by kernel_rfl) (G := fun K => ([D.bool (decide ((↑R : Int) < (0 : Int))), du (dig (↑R : Int).natAbs)][0]? = some (D.bool (decide ((↑R : Int) < (0 : Int)))) ∧ [D.bool (decide ((↑R : Int) < (0 : Int))), du (dig (↑R : Int).natAbs)][1]? = some (du (dig (↑R : Int).natAbs))) ∧ Fn Try.prog 102 [V.agg [D.bool (decide ((↑R : Int) < (0 : Int))), du (dig (↑R : Int).natAbs)]] [] (V.d (D.int IntKind.i64 (↑R : Int).sign)) [] ∧ K (St.mk [(2, V.ptr 0 0), (5, V.ptr 1 0), (6, V.ptr 2 0), (25, V.d (D.lst n (rc (List.take n (cp f))))), (26, V.d (D.int IntKind.i64 (↑n : Int))), (27, V.d (D.int IntKind.i64 (↑k : Int))), (9, V.ptr 16 0), (41, V.d (D.bool ((↑R : Int).sign != (0 : Int))))] [(0, some (Blk.mk [D.bool false, D.lst 0 []] true)), (1, some (Blk.mk [D.bool (decide ((↑L : Int) < (0 : Int))), du (dig (↑L : Int).natAbs)] true)), (2, some (Blk.mk [D.bool (decide ((↑(cm f k) : Int) < (0 : Int))), du (dig (↑(cm f k) : Int).natAbs)] true)), (6, some (Blk.mk [D.bool (decide (f.c k < (0 : Int))), du (dig (f.c k).natAbs)] true)), (16, some (Blk.mk [D.bool (decide ((↑Q : Int) < (0 : Int))), du (dig (↑Q : Int).natAbs)] true)), (17, some (Blk.mk [D.bool (decide ((↑R : Int) < (0 : Int))), du (dig (↑R : Int).natAbs)] true))] 24)) (fun K => by kernel_rfl) ?_
        refine ⟨⟨rfl, rfl⟩, hsg, ?_⟩
        refine awp_cond rfl (fun e2 => ?_) (fun e2 => awp_skip ⟨(), [(0, 0), (1, 1), (2, 2), (3, 16)], trivial, ?_⟩)
        · simp at e2
          rw [if_neg (by omega)] at hceil
          rw [← hceil]
          have hadd := addI (x := (Q : Int)) (by rw [Int.natAbs_natCast]; exact hzb) hone (by omega) (by omega)
          refine awp_x prog_ok hP hnt [] [.val (.agg (iz 1)), .val (.agg (iz (Q + 1 : Nat)))] [some (iz (Q : Nat))] [2, 5, 6, 9, 25, 26, 27] (by kernel_rfl) (G := fun K => ([D.bool (decide ((↑Q : Int) < (0 : Int))), du (dig (↑Q : Int).natAbs)][0]? = some (D.bool (decide ((↑Q : Int) < (0 : Int)))) ∧ [D.bool (decide ((↑Q : Int) < (0 : Int))), du (dig (↑Q : Int).natAbs)][1]? = some (du (dig (↑Q : Int).natAbs))) ∧ Fn Try.prog 74 [V.d (D.int IntKind.i64 (1 : Int))] [] (V.agg [D.bool (decide ((1 : Int) < (0 : Int))), du (dig (Int.natAbs (1 : Int)))]) [] ∧ Fn Try.prog 96 [V.agg [D.bool (decide ((↑Q : Int) < (0 : Int))), du (dig (↑Q : Int).natAbs)], V.agg [D.bool (decide ((1 : Int) < (0 : Int))), du (dig (Int.natAbs (1 : Int)))]] [] (V.agg [D.bool (decide ((↑(Q + 1) : Int) < (0 : Int))), du (dig (↑(Q + 1) : Int).natAbs)]) [] ∧ 0 + (iz (↑(Q + 1) : Int)).length ≤ [D.bool (decide ((↑Q : Int) < (0 : Int))), du (dig (↑Q : Int).natAbs)].length ∧ K (St.mk [(2, V.ptr 0 0), (5, V.ptr 1 0), (6, V.ptr 2 0), (25, V.d (D.lst n (rc (List.take n (cp f))))), (26, V.d (D.int IntKind.i64 (↑n : Int))), (27, V.d (D.int IntKind.i64 (↑k : Int))), (9, V.ptr 16 0)] [(0, some (Blk.mk [D.bool false, D.lst 0 []] true)), (1, some (Blk.mk [D.bool (decide ((↑L : Int) < (0 : Int))), du (dig (↑L : Int).natAbs)] true)), (2, some (Blk.mk [D.bool (decide ((↑(cm f k) : Int) < (0 : Int))), du (dig (↑(cm f k) : Int).natAbs)] true)), (6, some (Blk.mk [D.bool (decide (f.c k < (0 : Int))), du (dig (f.c k).natAbs)] true)), (16, some (Blk.mk [D.bool (decide ((↑(Q + 1) : Int) < (0 : Int))), du (dig (↑(Q + 1) : Int).natAbs)] true)), (17, some (Blk.mk [D.bool (decide ((↑R : Int) < (0 : Int))), du (dig (↑R : Int).natAbs)] true))] 28)) (fun K => by kernel_rfl) ?_
          refine ⟨⟨rfl, rfl⟩, hz1, hadd, by simp [iz], (), [(0, 0), (1, 1), (2, 2), (3, 16)], trivial, ?_⟩
          (constructor <;> simp [hl, envOk, memOk, conv, St.get, St.blk, iz])
        · simp at e2
          rw [if_pos (by omega)] at hceil
          rw [← hceil]
          (constructor <;> simp [hl, envOk, memOk, conv, St.get, St.blk, iz])
      intro _ _
      have hdl : ∀ y : Nat, y < 2 ^ KB → (dig y).length ≤ 2 ^ 36 := fun y hy => by
        refine Nat.le_trans (dig_len (k := KB) (Nat.lt_of_lt_of_le hy ?_)) (by omega)
        rw [show (4294967296 : Nat) = 2 ^ 32 from rfl, ← Nat.pow_mul]
        exact pw (by omega)
      have hcmp := icmp_fn false false (dig c) (dig (cm f k)) (by have := hdl c (by omega); omega) (by have := hdl _ (hcms k); omega) (dig_lt _) (dig_lt _)
      rw [show ival false (dig c) = (c : Int) from by unfold ival sgn; rw [val_dig]; rfl, show ival false (dig (cm f k)) = (cm f k : Int) from by unfold ival sgn; rw [val_dig]; rfl, ← iz_nat, ← iz_nat] at hcmp
      have hmx : cm f (k + 1) = max (cm f k) c := by rw [cm, hc', hz, hL]
      refine awp_sx prog_ok hP hnt [] [.val (.d (.int .i64 (cmpZ c (cm f k))))] [some (iz (c : Nat)), some (iz (cm f k : Nat))] [2, 5, 6, 9, 25, 26, 27, 48] (by kernel_rfl) (G := fun K => ((iz (↑c : Int))[0]? = some (D.bool (decide ((↑c : Int) < (0 : Int)))) ∧ (iz (↑c : Int))[1]? = some (du (dig (↑c : Int).natAbs))) ∧ ((iz (↑(cm f k) : Int))[0]? = some (D.bool (decide ((↑(cm f k) : Int) < (0 : Int)))) ∧ (iz (↑(cm f k) : Int))[1]? = some (du (dig (↑(cm f k) : Int).natAbs))) ∧ Fn Try.prog 143 [V.agg [D.bool (decide ((↑c : Int) < (0 : Int))), du (dig (↑c : Int).natAbs)], V.agg [D.bool (decide ((↑(cm f k) : Int) < (0 : Int))), du (dig (↑(cm f k) : Int).natAbs)]] [] (V.d (D.int IntKind.i64 (cmpZ (↑c : Int) (↑(cm f k) : Int)))) [] ∧ K (St.mk [(2, V.ptr 0 0), (5, V.ptr 1 0), (6, V.ptr 2 0), (9, V.ptr 3 0), (25, V.d (D.lst n (rc (List.take n (cp f))))), (26, V.d (D.int IntKind.i64 (↑n : Int))), (27, V.d (D.int IntKind.i64 (↑k : Int))), (48, V.d (D.bool (decide (cmpZ (↑c : Int) (↑(cm f k) : Int) > (0 : Int)))))] [(0, some (Blk.mk [D.bool false, D.lst 0 []] true)), (1, some (Blk.mk [D.bool (decide ((↑L : Int) < (0 : Int))), du (dig (↑L : Int).natAbs)] true)), (2, some (Blk.mk [D.bool (decide ((↑(cm f k) : Int) < (0 : Int))), du (dig (↑(cm f k) : Int).natAbs)] true)), (3, some (Blk.mk [D.bool (decide ((↑c : Int) < (0 : Int))), du (dig (↑c : Int).natAbs)] true))] 8)) (fun K => by kernel_rfl) ?_
      refine ⟨⟨rfl, rfl⟩, ⟨rfl, rfl⟩, hcmp, ?_⟩
      refine awp_cond rfl (fun e2 => ?_) (fun e2 => awp_skip (hK2 _ ?_))
      · have hlt : cm f k < c := by
          rcases Nat.lt_or_ge (cm f k) c with h | h
          · exact h
          · exfalso
            have e3 := of_decide_eq_true e2
            unfold cmpZ at e3
            rw [if_neg (by omega)] at e3
            split at e3 <;> omega
        refine awp_x prog_ok hP hnt [] [] [some (iz (c : Nat))] [2, 5, 6, 25, 26, 27] (by kernel_rfl) (G := fun K => ([D.bool (decide ((↑c : Int) < (0 : Int))), du (dig (↑c : Int).natAbs)][0]? = some (D.bool (decide ((↑c : Int) < (0 : Int)))) ∧ [D.bool (decide ((↑c : Int) < (0 : Int))), du (dig (↑c : Int).natAbs)][1]? = some (du (dig (↑c : Int).natAbs))) ∧ 0 + (iz (↑c : Int)).length ≤ [D.bool (decide ((↑(cm f k) : Int) < (0 : Int))), du (dig (↑(cm f k) : Int).natAbs)].length ∧ K (St.mk [(2, V.ptr 0 0), (5, V.ptr 1 0), (6, V.ptr 2 0), (25, V.d (D.lst n (rc (List.take n (cp f))))), (26, V.d (D.int IntKind.i64 (↑n : Int))), (27, V.d (D.int IntKind.i64 (↑k : Int)))] [(0, some (Blk.mk [D.bool false, D.lst 0 []] true)), (1, some (Blk.mk [D.bool (decide ((↑L : Int) < (0 : Int))), du (dig (↑L : Int).natAbs)] true)), (2, some (Blk.mk [D.bool (decide ((↑c : Int) < (0 : Int))), du (dig (↑c : Int).natAbs)] true)), (3, some (Blk.mk [D.bool (decide ((↑c : Int) < (0 : Int))), du (dig (↑c : Int).natAbs)] true))] 10)) (fun K => by kernel_rfl) ?_
        refine ⟨⟨rfl, rfl⟩, by simp [iz], hK2 _ ?_⟩
        refine awp_x prog_ok hP hnt [(50, .int .i64 (k + 1 : Nat))] [] [] [2, 5, 6, 25, 26, 27] (by kernel_rfl) (G := fun K => IntKind.i64.wrap ((↑k : Int) + (1 : Int)) = (↑(k + 1) : Int) ∧ K (St.mk [(2, V.ptr 0 0), (5, V.ptr 1 0), (6, V.ptr 2 0), (25, V.d (D.lst n (rc (List.take n (cp f))))), (26, V.d (D.int IntKind.i64 (↑n : Int))), (27, V.d (D.int IntKind.i64 (↑(k + 1) : Int)))] [(0, some (Blk.mk [D.bool false, D.lst 0 []] true)), (1, some (Blk.mk [D.bool (decide ((↑L : Int) < (0 : Int))), du (dig (↑L : Int).natAbs)] true)), (2, some (Blk.mk [D.bool (decide ((↑c : Int) < (0 : Int))), du (dig (↑c : Int).natAbs)] true)), (3, some (Blk.mk [D.bool (decide ((↑c : Int) < (0 : Int))), du (dig (↑c : Int).natAbs)] true))] 12)) (fun K => by kernel_rfl) ?_
        refine ⟨by rw [w64] <;> omega, k + 1, [(0, 0), (1, 1), (2, 2)], ⟨by omega, by omega⟩, ?_⟩
        rw [hmx, Nat.max_eq_right (by omega)]
        (constructor <;> simp [hl, envOk, memOk, conv, St.get, St.blk, iz])
      · have hle : c ≤ cm f k := by
          rcases Nat.lt_or_ge (cm f k) c with h | h
          · exfalso
            have e3 := of_decide_eq_false e2
            rw [cmpZ_gt (by omega)] at e3
            omega
          · exact h
        refine awp_x prog_ok hP hnt [(50, .int .i64 (k + 1 : Nat))] [] [] [2, 5, 6, 25, 26, 27] (by kernel_rfl) (G := fun K => IntKind.i64.wrap ((↑k : Int) + (1 : Int)) = (↑(k + 1) : Int) ∧ K (St.mk [(2, V.ptr 0 0), (5, V.ptr 1 0), (6, V.ptr 2 0), (25, V.d (D.lst n (rc (List.take n (cp f))))), (26, V.d (D.int IntKind.i64 (↑n : Int))), (27, V.d (D.int IntKind.i64 (↑(k + 1) : Int)))] [(0, some (Blk.mk [D.bool false, D.lst 0 []] true)), (1, some (Blk.mk [D.bool (decide ((↑L : Int) < (0 : Int))), du (dig (↑L : Int).natAbs)] true)), (2, some (Blk.mk [D.bool (decide ((↑(cm f k) : Int) < (0 : Int))), du (dig (↑(cm f k) : Int).natAbs)] true)), (3, some (Blk.mk [D.bool (decide ((↑c : Int) < (0 : Int))), du (dig (↑c : Int).natAbs)] true))] 10)) (fun K => by kernel_rfl) ?_
        refine ⟨by rw [w64] <;> omega, k + 1, [(0, 0), (1, 1), (2, 2)], ⟨by omega, by omega⟩, ?_⟩
        rw [hmx, Nat.max_eq_left hle]
        (constructor <;> simp [hl, envOk, memOk, conv, St.get, St.blk, iz])
    · simp at e
      have : k = n := by omega
      subst this
      (constructor <;> simp [hl, envOk, memOk, conv, St.get, St.blk, iz])
  intro _ _
  have hadd := addI (hcmz n) hone (by omega) (by omega)
  rw [hc]
  refine awp_sx prog_ok hP hnt [] [.val (.agg (iz 1)), .val (.agg (iz (cm f n + 1 : Nat)))] [some (iz (cm f n : Nat))] [2] (by kernel_rfl) (G := fun K => ((iz (↑(cm f n) : Int))[0]? = some (D.bool (decide ((↑(cm f n) : Int) < (0 : Int)))) ∧ (iz (↑(cm f n) : Int))[1]? = some (du (dig (↑(cm f n) : Int).natAbs))) ∧ Fn Try.prog 74 [V.d (D.int IntKind.i64 (1 : Int))] [] (V.agg [D.bool (decide ((1 : Int) < (0 : Int))), du (dig (Int.natAbs (1 : Int)))]) [] ∧ Fn Try.prog 96 [V.agg [D.bool (decide ((↑(cm f n) : Int) < (0 : Int))), du (dig (↑(cm f n) : Int).natAbs)], V.agg [D.bool (decide ((1 : Int) < (0 : Int))), du (dig (Int.natAbs (1 : Int)))]] [] (V.agg [D.bool (decide ((↑(cm f n + 1) : Int) < (0 : Int))), du (dig (↑(cm f n + 1) : Int).natAbs)]) [] ∧ 0 + (iz (↑(cm f n + 1) : Int)).length ≤ [D.bool false, D.lst 0 []].length ∧ K (St.mk [(2, V.ptr 0 0)] [(0, some (Blk.mk [D.bool (decide ((↑(cm f n + 1) : Int) < (0 : Int))), du (dig (↑(cm f n + 1) : Int).natAbs)] true)), (2, some (Blk.mk [D.bool (decide ((↑(cm f n) : Int) < (0 : Int))), du (dig (↑(cm f n) : Int).natAbs)] true))] 7)) (fun K => by kernel_rfl) ?_
  exact ⟨⟨rfl, rfl⟩, hz1, hadd, by simp [iz], awp_ret ⟨.inl rfl, retC (l := true) rfl rfl rfl rfl⟩⟩
end Go.Abs

set_option linter.unusedVariables false
set_option linter.unusedSimpArgs false
namespace Go.Abs
open Go Go.Proofs Poly
set_option maxRecDepth 100000

theorem is14_fn (s : Bool) (l : List Nat) (n : Int) (h : l.length ≤ 2 ^ 39) (hd : Dg l) (h1 : -9223372036854775808 ≤ n) (h2 : n ≤ 9223372036854775807) :
    Fn Try.prog 84 [.agg (ic s l), .d (.int .i64 n)] [] (.d (.bool (decide (ival s l = n)))) [] := by
  refine fn0 (nt := 10) (res := [.tmp 4]) Try.func84 rfl (by decide) rfl rfl rfl rfl ?_
  intro Cx hP hnt hl
  have ho := iOf_fn n h1 h2
  have hn2 : (dig n.natAbs).length ≤ 2 := dig_len (by omega)
  have hc := icmp_fn s (decide (n < 0)) l (dig n.natAbs) (by omega) (by omega) hd (dig_lt _)
  rw [ival_iz, ← iz_ic] at hc
  refine awp_sx prog_ok hP hnt [] [] [] [1, 2] (by kernel_rfl) (G := fun K => K (St.mk [(1, V.d (D.int IntKind.i64 n)), (2, V.ptr 0 0)] [(0, some (Blk.mk [D.bool s, du l] true))] 2)) (fun K => by kernel_rfl) ?_
  refine awp_sx prog_ok hP hnt [] [.val (.agg (iz n)), .val (.d (.int .i64 (cmpZ (ival s l) n)))] [some (ic s l)] [4] (by kernel_rfl) (G := fun K => ([D.bool s, du l][0]? = some (D.bool s) ∧ [D.bool s, du l][1]? = some (du l)) ∧ Fn Try.prog 74 [V.d (D.int IntKind.i64 n)] [] (V.agg [D.bool (decide (n < (0 : Int))), du (dig n.natAbs)]) [] ∧ Fn Try.prog 143 [V.agg [D.bool s, du l], V.agg [D.bool (decide (n < (0 : Int))), du (dig n.natAbs)]] [] (V.d (D.int IntKind.i64 (cmpZ (ival s l) n))) [] ∧ K (St.mk [(4, V.d (D.bool (cmpZ (ival s l) n == (0 : Int))))] [(0, some (Blk.mk [D.bool s, du l] true))] 8)) (fun K => by kernel_rfl) ?_
  refine ⟨⟨rfl, rfl⟩, ho, hc, awp_ret ⟨.inl rfl, retD ?_⟩⟩
  have : (cmpZ (ival s l) n == 0) = decide (ival s l = n) := by
    rw [Bool.eq_iff_iff, beq_iff_eq, decide_eq_true_iff, cmpZ_zero]
  rw [← this]; rfl

theorem cauchy_2 : cauchy (polL [2, -5, 2]) = 4 := by
  have hsz : (polL [2, -5, 2]).sz = 3 := by
    apply Nat.le_antisymm (polL_sz _)
    rcases Nat.lt_or_ge (polL [2, -5, 2]).sz 3 with h | h
    · have h2 : (polL [2, -5, 2]).c 2 = 0 := above (by omega)
      exact absurd h2 (by decide)
    · exact h
  have hlc : (polL [2, -5, 2]).lc = 2 := by unfold Poly.lc; rw [hsz]; rfl
  unfold cauchy
  rw [hsz, if_neg (by omega)]
  simp only [cm, hlc]
  decide

theorem awake14_fn : Fn Try.prog 75 [] [] (.d (.bool true)) [] := by
  refine fn0 (nt := 13) (res := [.tmp 0]) Try.func75 rfl (by decide) rfl rfl rfl rfl ?_
  intro Cx hP hnt hl
  have ho := ofP [2, -5, 2] (by decide) (by intro z hz; simp at hz; omega)
  have hb : W 0 (cp (polL [2, -5, 2])) := by
    have hB : Bz 3 [2, -5, 2] := by intro z hz; simp at hz; rcases hz with rfl | rfl | rfl <;> decide
    refine Lv.w ⟨Nat.le_trans (polL_sz _) (by decide), fun k => Nat.lt_of_lt_of_le (hB.getD k) ?_⟩
    exact Nat.le_trans (show 2 ^ 3 ≤ 4294967296 ^ 1 by decide) (Nat.pow_le_pow_right (by omega) (by omega))
  have hc := cauchyP (by omega) hb
  rw [pol_cp, cauchy_2] at hc
  have h3 := iOf_fn 3 (by decide) (by decide)
  have hcmp := icmp_fn (decide ((4 : Int) < 0)) (decide ((3 : Int) < 0)) (dig (4 : Int).natAbs) (dig (3 : Int).natAbs) (by have := dig_len (n := 4) (k := 1) (by decide); show (dig 4).length ≤ _; omega) (by have := dig_len (n := 3) (k := 1) (by decide); show (dig 3).length ≤ _; omega) (dig_lt _) (dig_lt _)
  rw [ival_iz, ival_iz, ← iz_ic, ← iz_ic] at hcmp
  have his := is14_fn (decide ((4 : Int) < 0)) (dig (4 : Int).natAbs) 4 (by have := dig_len (n := 4) (k := 1) (by decide); show (dig 4).length ≤ _; omega) (dig_lt _) (by decide) (by decide)
  rw [ival_iz, ← iz_ic] at his
  refine awp_sx prog_ok hP hnt [] [] [] [] (by kernel_rfl) (G := fun K => K (St.mk [] [] 1)) (fun K => by kernel_rfl) ?_
  refine awp_sx prog_ok hP hnt [] [.val (.d (rp (cp (polL [2, -5, 2])))), .val (.agg (iz 4))] [] [1] (by kernel_rfl) (G := fun K => Fn Try.prog 51 [V.d (D.lst 3 [D.int IntKind.i64 (2 : Int), D.int IntKind.i64 (-5 : Int), D.int IntKind.i64 (2 : Int)])] [] (V.d (rp (cp (polL [(2 : Int), (-5 : Int), (2 : Int)])))) [] ∧ Fn Try.prog 104 [V.d (rp (cp (polL [(2 : Int), (-5 : Int), (2 : Int)])))] [] (V.agg [D.bool (decide ((4 : Int) < (0 : Int))), du (dig (Int.natAbs (4 : Int)))]) [] ∧ 2 ≤ (TI.mk (Kind.struct [(0, 1), (1, 1)]) 2 32 [D.bool false, D.lst 0 []]).zero.length ∧ K (St.mk [(1, V.ptr 4 0)] [(4, some (Blk.mk [D.bool (decide ((4 : Int) < (0 : Int))), du (dig (Int.natAbs (4 : Int)))] true))] 6)) (fun K => by kernel_rfl) ?_
  refine ⟨ho, hc, by simp, ?_⟩
  refine awp_sx prog_ok hP hnt [(8, .bool true)] [.val (.agg (iz 3)), .val (.d (.int .i64 (cmpZ 4 3))), .val (.d (.bool (decide ((4 : Int) = 4))))] [some (iz 4), some (iz 4)] [0] (by kernel_rfl) (G := fun K => ([D.bool (decide ((4 : Int) < (0 : Int))), du (dig (Int.natAbs (4 : Int)))][0]? = some (D.bool (decide ((4 : Int) < (0 : Int)))) ∧ [D.bool (decide ((4 : Int) < (0 : Int))), du (dig (Int.natAbs (4 : Int)))][1]? = some (du (dig (Int.natAbs (4 : Int))))) ∧ Fn Try.prog 74 [V.d (D.int IntKind.i64 (3 : Int))] [] (V.agg [D.bool (decide ((3 : Int) < (0 : Int))), du (dig (Int.natAbs (3 : Int)))]) [] ∧ Fn Try.prog 143 [V.agg [D.bool (decide ((4 : Int) < (0 : Int))), du (dig (Int.natAbs (4 : Int)))], V.agg [D.bool (decide ((3 : Int) < (0 : Int))), du (dig (Int.natAbs (3 : Int)))]] [] (V.d (D.int IntKind.i64 (cmpZ (4 : Int) (3 : Int)))) [] ∧ decide (cmpZ (4 : Int) (3 : Int) > (0 : Int)) = true ∧ ([D.bool (decide ((4 : Int) < (0 : Int))), du (dig (Int.natAbs (4 : Int)))][0]? = some (D.bool (decide ((4 : Int) < (0 : Int)))) ∧ [D.bool (decide ((4 : Int) < (0 : Int))), du (dig (Int.natAbs (4 : Int)))][1]? = some (du (dig (Int.natAbs (4 : Int))))) ∧ Fn Try.prog 84 [V.agg [D.bool (decide ((4 : Int) < (0 : Int))), du (dig (Int.natAbs (4 : Int)))], V.d (D.int IntKind.i64 (4 : Int))] [] (V.d (D.bool (decide ((4 : Int) = (4 : Int))))) [] ∧ K (St.mk [(0, V.d (D.bool (decide ((4 : Int) = (4 : Int)))))] [(4, some (Blk.mk [D.bool (decide ((4 : Int) < (0 : Int))), du (dig (Int.natAbs (4 : Int)))] true))] 15)) (fun K => by kernel_rfl) ?_
  exact ⟨⟨rfl, rfl⟩, h3, hcmp, by rfl, ⟨rfl, rfl⟩, his, awp_ret ⟨.inl rfl, retD rfl⟩⟩

/-- the first numbers, limited -/
def clip (m x : Int) : Int := min (max x (-m)) m
def wideL (n : Nat) (m : Int) (l : List Int) : List Int := (l.take n).map (clip m)

theorem i16s_len (l : List Int) : (i16s l).length = l.length := by
  have := fm_len (g := fun n : Int => [D.int .i16 n]) (w := 1) (fun _ => rfl) l
  rw [Nat.mul_one] at this; exact this
theorem i16s_get (l : List Int) (i : Nat) : (i16s l)[i]? = (l[i]?).map fun d => D.int .i16 d := by
  induction l generalizing i with
  | nil => simp [i16s, fm]
  | cons x l ih =>
    cases i with
    | zero => rfl
    | succ i => show (i16s l)[i]? = _; rw [ih]; rfl

theorem wide_fn (l : List Int) (n : Nat) (m : Int) (hl0 : ∀ z ∈ l, -32768 ≤ z ∧ z ≤ 32767) (hn : n ≤ 100) (hm : 0 ≤ m ∧ m ≤ 100000) :
    Fn Try.prog 82 [.d (.lst l.length (i16s l)), .d (.int .i64 n), .d (.int .i64 m)] [] (.d (.lst (wideL n m l).length (i64s (wideL n m l)))) [] := by
  refine fn0 (nt := 34) (res := [.tmp 6]) Try.func82 rfl (by decide) rfl rfl rfl rfl ?_
  intro Cx hP hnt hl
  refine awp_sx prog_ok hP hnt [] [] [] [0, 1, 2] (by kernel_rfl) (G := fun K => K (St.mk [(0, V.d (D.lst l.length (i16s l))), (1, V.d (D.int IntKind.i64 (↑n : Int))), (2, V.d (D.int IntKind.i64 m))] [] 1)) (fun K => by kernel_rfl) ?_
  refine awp_sx prog_ok hP hnt [] [] [] [0, 1, 2, 7] (by kernel_rfl) (G := fun K => K (St.mk [(0, V.d (D.lst l.length (i16s l))), (1, V.d (D.int IntKind.i64 (↑n : Int))), (2, V.d (D.int IntKind.i64 m)), (7, V.nil)] [] 2)) (fun K => by kernel_rfl) ?_
  refine awp_cut (ι := Unit) (fun _ => ⟨[(7, .own 0 0 (wideL n m l).length 1)], [(0, some ⟨i64s (wideL n m l), true⟩)], 1⟩) (fun _ => True) ?_ ?_
  · refine awp_sx prog_ok hP hnt [] [] [] [0, 1, 2, 7, 8] (by kernel_rfl) (G := fun K => K (St.mk [(0, V.d (D.lst l.length (i16s l))), (1, V.d (D.int IntKind.i64 (↑n : Int))), (2, V.d (D.int IntKind.i64 m)), (7, V.nil), (8, V.d (D.int IntKind.i64 (0 : Int)))] [] 3)) (fun K => by kernel_rfl) ?_
    refine awp_block ?_
    refine awp_loop (ι := Nat) (fun k => ⟨[(0, .d (.lst l.length (i16s l))), (1, .d (.int .i64 n)), (2, .d (.int .i64 m)), (7, .own 0 0 k 1), (8, .d (.int .i64 k))], [(0, some ⟨i64s (wideL k m l), true⟩)], 1⟩)
      (fun k => k ≤ l.length ∧ k ≤ n) (fun k => l.length - k) 0 [] ⟨by omega, by omega⟩ ?_ ?_
    · (constructor <;> simp [hl, envOk, memOk, conv, St.get, St.blk, wideL, i64s])
    intro k ⟨hk1, hk2⟩
    refine awp_seq_k fun K1 hK1 => ?_
    have hfin : ¬ (k < l.length ∧ k < n) → wideL k m l = wideL n m l := fun h => by
      unfold wideL
      congr 1
      rcases Nat.lt_or_ge k l.length with h1 | h1
      · rw [show k = n by omega]
      · rw [List.take_of_length_le h1, List.take_of_length_le (by omega)]
    have hwl : (wideL k m l).length = k := by simp [wideL]; omega
    by_cases h1 : k < l.length
    · by_cases h2 : k < n
      · obtain ⟨z, hz⟩ := get_ex (l := l) (i := k) h1
        have hz16 := hl0 z (List.mem_of_getElem? hz)
        have hsucc : wideL (k + 1) m l = wideL k m l ++ [clip m z] := by
          unfold wideL
          rw [List.take_add_one, hz, List.map_append]; rfl
        refine awp_sx prog_ok hP hnt [(12, .bool true), (16, .bool true), (17, .bool true)] [] [] [0, 1, 2, 7, 8, 17] (by kernel_rfl) (G := fun K => decide ((↑k : Int) < (↑l.length : Int)) = true ∧ decide ((↑k : Int) < (↑n : Int)) = true ∧ true = true ∧ K (St.mk [(0, V.d (D.lst l.length (i16s l))), (1, V.d (D.int IntKind.i64 (↑n : Int))), (2, V.d (D.int IntKind.i64 m)), (7, V.own 0 0 k 1), (8, V.d (D.int IntKind.i64 (↑k : Int))), (17, V.d (D.bool true))] [(0, some (Blk.mk (i64s (wideL k m l)) true))] 10)) (fun K => by kernel_rfl) ?_
        refine ⟨by simp; omega, by simp; omega, rfl, awp_cond (b := true) rfl (fun _ => awp_skip (hK1 _ ?_)) nofun⟩
        refine awp_seq_k fun K2 hK2 => ?_
        refine awp_block ?_
        refine awp_x prog_ok hP hnt [(25, .int .i64 z), (30, .int .i64 (clip m z))] [] [some [.int .i16 z]] [0, 1, 2, 7, 8] (by kernel_rfl) (G := fun K => ((0 : Int) ≤ (↑k : Int) ∧ (↑k : Int) < (↑l.length : Int) ∧ ((↑k : Int).toNat + 1) * 1 ≤ (i16s l).length) ∧ (List.drop ((↑k : Int).toNat * 1) (i16s l))[0]? = some (D.int IntKind.i16 z) ∧ IntKind.i64.wrap z = z ∧ (if m < if IntKind.i64.wrap ((0 : Int) - m) > z then IntKind.i64.wrap ((0 : Int) - m) else z then m else if IntKind.i64.wrap ((0 : Int) - m) > z then IntKind.i64.wrap ((0 : Int) - m) else z) = clip m z ∧ 1 = 1 ∧ ((i64s (wideL k m l)).length = k * 1 ∧ (k + 1) * 8 ≤ 2 ^ 47) ∧ K (St.mk [(0, V.d (D.lst l.length (i16s l))), (1, V.d (D.int IntKind.i64 (↑n : Int))), (2, V.d (D.int IntKind.i64 m)), (7, V.own 22 0 (k + 1) 1), (8, V.d (D.int IntKind.i64 (↑k : Int)))] [(0, none), (22, some (Blk.mk (i64s (wideL k m l) ++ setCells (zeros 1 (TI.mk (Kind.int IntKind.i64) 1 8 [D.int IntKind.i64 (0 : Int)]).zero) 0 [D.int IntKind.i64 (clip m z)]) true))] 24)) (fun K => by kernel_rfl) ?_
        have hw1 : IntKind.i64.wrap (0 - m) = -m := by rw [w64] <;> omega
        have hmm : (if m < if IntKind.i64.wrap (0 - m) > z then IntKind.i64.wrap (0 - m) else z then m else if IntKind.i64.wrap (0 - m) > z then IntKind.i64.wrap (0 - m) else z) = clip m z := by
          rw [hw1]; unfold clip
          by_cases h3 : -m > z
          · rw [if_pos h3]; split <;> omega
          · rw [if_neg h3]; split <;> omega
        refine ⟨⟨by omega, by omega, by rw [i16s_len]; omega⟩, by rw [Int.toNat_natCast, Nat.mul_one, List.getElem?_drop, Nat.add_zero, i16s_get, hz]; rfl, by rw [w64] <;> omega, hmm, rfl, ⟨by rw [i64s_len, hwl]; omega, by omega⟩, hK2 _ ?_⟩
        refine awp_x prog_ok hP hnt [(19, .int .i64 (k + 1 : Nat))] [] [] [0, 1, 2, 7, 8] (by kernel_rfl) (G := fun K => IntKind.i64.wrap ((↑k : Int) + (1 : Int)) = (↑(k + 1) : Int) ∧ K (St.mk [(0, V.d (D.lst l.length (i16s l))), (1, V.d (D.int IntKind.i64 (↑n : Int))), (2, V.d (D.int IntKind.i64 m)), (7, V.own 22 0 (k + 1) 1), (8, V.d (D.int IntKind.i64 (↑(k + 1) : Int)))] [(0, none), (22, some (Blk.mk (i64s (wideL k m l) ++ setCells (zeros 1 (TI.mk (Kind.int IntKind.i64) 1 8 [D.int IntKind.i64 (0 : Int)]).zero) 0 [D.int IntKind.i64 (clip m z)]) true))] 27)) (fun K => by kernel_rfl) ?_
        refine ⟨by rw [w64] <;> omega, k + 1, [(0, 22)], ⟨⟨by omega, by omega⟩, by omega⟩, ?_⟩
        rw [hsucc]
        (constructor <;> simp [hl, envOk, memOk, conv, St.get, St.blk, i64s, zeros, setCells])
      · refine awp_sx prog_ok hP hnt [(12, .bool true), (16, .bool false), (17, .bool false)] [] [] [0, 1, 2, 7, 8, 17] (by kernel_rfl) (G := fun K => decide ((↑k : Int) < (↑l.length : Int)) = true ∧ decide ((↑k : Int) < (↑n : Int)) = false ∧ false = false ∧ K (St.mk [(0, V.d (D.lst l.length (i16s l))), (1, V.d (D.int IntKind.i64 (↑n : Int))), (2, V.d (D.int IntKind.i64 m)), (7, V.own 0 0 k 1), (8, V.d (D.int IntKind.i64 (↑k : Int))), (17, V.d (D.bool false))] [(0, some (Blk.mk (i64s (wideL k m l)) true))] 10)) (fun K => by kernel_rfl) ?_
        refine ⟨by simp; omega, by simp; omega, rfl, awp_cond (b := false) rfl nofun fun _ => awp_exit ⟨(), [(0, 0)], trivial, ?_⟩⟩
        rw [← hfin (by omega), hwl]
        (constructor <;> simp [hl, envOk, memOk, conv, St.get, St.blk])
    · refine awp_sx prog_ok hP hnt [(12, .bool false), (17, .bool false)] [] [] [0, 1, 2, 7, 8, 17] (by kernel_rfl) (G := fun K => decide ((↑k : Int) < (↑l.length : Int)) = false ∧ false = false ∧ K (St.mk [(0, V.d (D.lst l.length (i16s l))), (1, V.d (D.int IntKind.i64 (↑n : Int))), (2, V.d (D.int IntKind.i64 m)), (7, V.own 0 0 k 1), (8, V.d (D.int IntKind.i64 (↑k : Int))), (17, V.d (D.bool false))] [(0, some (Blk.mk (i64s (wideL k m l)) true))] 10)) (fun K => by kernel_rfl) ?_
      refine ⟨by simp; omega, rfl, awp_cond (b := false) rfl nofun fun _ => awp_exit ⟨(), [(0, 0)], trivial, ?_⟩⟩
      rw [← hfin (by omega), hwl]
      (constructor <;> simp [hl, envOk, memOk, conv, St.get, St.blk])
  intro _ _
  refine awp_sx prog_ok hP hnt [] [] [] [6] (by kernel_rfl) (G := fun K => K (St.mk [(6, V.own 0 0 (wideL n m l).length 1)] [(0, some (Blk.mk (i64s (wideL n m l)) true))] 3)) (fun K => by kernel_rfl) ?_
  refine awp_ret ⟨.inl rfl, retOwn rfl rfl ?_⟩
  rw [List.drop_zero, List.take_of_length_le (by simp)]

/-- a list of numbers as a polynomial -/
theorem poly14_fn (l : List Int) (hn : l.length ≤ 2 ^ 40) (hl64 : In64 l) : Fn Try.prog 79 [.d (.lst l.length (i64s l))] [] (.d (rp (cp (polL l)))) [] := by
  refine fn0 (nt := 20) (res := [.tmp 2]) Try.func79 rfl (by decide) rfl rfl rfl rfl ?_
  intro Cx hP hnt hl
  have ho := ofP l hn hl64
  refine awp_sx prog_ok hP hnt [] [] [] [0] (by kernel_rfl) (G := fun K => K (St.mk [(0, V.d (D.lst l.length (i64s l)))] [] 1)) (fun K => by kernel_rfl) ?_
  refine awp_sx prog_ok hP hnt [] [] [] [0, 3] (by kernel_rfl) (G := fun K => K (St.mk [(0, V.d (D.lst l.length (i64s l))), (3, V.nil)] [] 2)) (fun K => by kernel_rfl) ?_
  refine awp_cut (ι := Unit) (fun _ => ⟨[(3, .own 0 0 l.length 1)], [(0, some ⟨i64s l, true⟩)], 1⟩) (fun _ => True) ?_ ?_
  · refine awp_sx prog_ok hP hnt [] [] [] [0, 3, 4] (by kernel_rfl) (G := fun K => K (St.mk [(0, V.d (D.lst l.length (i64s l))), (3, V.nil), (4, V.d (D.int IntKind.i64 (0 : Int)))] [] 3)) (fun K => by kernel_rfl) ?_
    refine awp_block ?_
    refine awp_loop (ι := Nat) (fun k => ⟨[(0, .d (.lst l.length (i64s l))), (3, .own 0 0 k 1), (4, .d (.int .i64 k))], [(0, some ⟨i64s (l.take k), true⟩)], 1⟩)
      (fun k => k ≤ l.length) (fun k => l.length - k) 0 [] (by omega) ?_ ?_
    · (constructor <;> simp [hl, envOk, memOk, conv, St.get, St.blk, i64s])
    intro k hk
    refine awp_seq_k fun K1 hK1 => ?_
    refine awp_sx prog_ok hP hnt [] [] [] [0, 3, 4, 8] (by kernel_rfl) (G := fun K => K (St.mk [(0, V.d (D.lst l.length (i64s l))), (3, V.own 0 0 k 1), (4, V.d (D.int IntKind.i64 (↑k : Int))), (8, V.d (D.bool (decide ((↑k : Int) < (↑l.length : Int)))))] [(0, some (Blk.mk (i64s (List.take k l)) true))] 5)) (fun K => by kernel_rfl) ?_
    refine awp_cond rfl (fun e => awp_skip (hK1 _ ?_)) (fun e => awp_exit ⟨(), [(0, 0)], trivial, ?_⟩)
    · simp at e
      obtain ⟨z, hz⟩ := get_ex (l := l) (i := k) e
      have hlk : (l.take k).length = k := by simp; omega
      have hsucc : l.take (k + 1) = l.take k ++ [z] := by rw [List.take_add_one, hz]; rfl
      refine awp_seq_k fun K2 hK2 => ?_
      refine awp_block ?_
      refine awp_x prog_ok hP hnt [] [] [some [.int .i64 z]] [0, 3, 4] (by kernel_rfl) (G := fun K => ((0 : Int) ≤ (↑k : Int) ∧ (↑k : Int) < (↑l.length : Int) ∧ ((↑k : Int).toNat + 1) * 1 ≤ (i64s l).length) ∧ (List.drop ((↑k : Int).toNat * 1) (i64s l))[0]? = some (D.int IntKind.i64 z) ∧ 1 = 1 ∧ ((i64s (List.take k l)).length = k * 1 ∧ (k + 1) * 8 ≤ 2 ^ 47) ∧ K (St.mk [(0, V.d (D.lst l.length (i64s l))), (3, V.own 11 0 (k + 1) 1), (4, V.d (D.int IntKind.i64 (↑k : Int)))] [(0, none), (11, some (Blk.mk (i64s (List.take k l) ++ setCells (zeros 1 (TI.mk (Kind.int IntKind.i64) 1 8 [D.int IntKind.i64 (0 : Int)]).zero) 0 [D.int IntKind.i64 z]) true))] 13)) (fun K => by kernel_rfl) ?_
      refine ⟨⟨by omega, by omega, by simp; omega⟩, by simp [hz], rfl, ⟨by rw [i64s_len, hlk]; omega, by omega⟩, hK2 _ ?_⟩
      refine awp_x prog_ok hP hnt [(10, .int .i64 (k + 1 : Nat))] [] [] [0, 3, 4] (by kernel_rfl) (G := fun K => IntKind.i64.wrap ((↑k : Int) + (1 : Int)) = (↑(k + 1) : Int) ∧ K (St.mk [(0, V.d (D.lst l.length (i64s l))), (3, V.own 11 0 (k + 1) 1), (4, V.d (D.int IntKind.i64 (↑(k + 1) : Int)))] [(0, none), (11, some (Blk.mk (i64s (List.take k l) ++ setCells (zeros 1 (TI.mk (Kind.int IntKind.i64) 1 8 [D.int IntKind.i64 (0 : Int)]).zero) 0 [D.int IntKind.i64 z]) true))] 16)) (fun K => by kernel_rfl) ?_
      refine ⟨by rw [w64] <;> omega, k + 1, [(0, 11)], ⟨by omega, by omega⟩, ?_⟩
      rw [hsucc]
      (constructor <;> simp [hl, envOk, memOk, conv, St.get, St.blk, i64s, zeros, setCells])
    · simp at e
      have : k = l.length := by omega
      subst this
      rw [List.take_length]
      (constructor <;> simp [hl, envOk, memOk, conv, St.get, St.blk])
  intro _ _
  refine awp_sx prog_ok hP hnt [] [.val (.d (rp (cp (polL l))))] [] [2] (by kernel_rfl) (G := fun K => Fn Try.prog 51 [V.d (D.lst l.length (List.take (l.length * 1) (List.drop 0 (i64s l))))] [] (V.d (rp (cp (polL l)))) [] ∧ K (St.mk [(2, V.d (rp (cp (polL l))))] [(0, some (Blk.mk (i64s l) false))] 4)) (fun K => by kernel_rfl) ?_
  rw [List.drop_zero, List.take_of_length_le (by simp)]
  exact ⟨ho, awp_ret ⟨.inl rfl, retD rfl⟩⟩
end Go.Abs

set_option linter.unusedVariables false
set_option linter.unusedSimpArgs false
namespace Go.Abs
open Go Go.Proofs Poly
set_option maxRecDepth 100000

/-- sign changes among the first values, and the last value other than 0 -/
def vr (F : Nat → Int) : Nat → Nat × Int
  | 0 => (0, 0)
  | k + 1 => if F k = 0 then vr F k else (if (vr F k).2 ≠ 0 ∧ (vr F k).2.sign ≠ (F k).sign then (vr F k).1 + 1 else (vr F k).1, F k)
theorem vr_le (F : Nat → Int) : ∀ k, (vr F k).1 ≤ k
  | 0 => Nat.le_refl _
  | k + 1 => by
    have := vr_le F k
    unfold vr
    split
    · omega
    · simp only; split <;> omega
theorem vr_more {F : Nat → Int} {n : Nat} : ∀ {m : Nat}, n ≤ m → (∀ k, n ≤ k → F k = 0) → vr F m = vr F n
  | 0, h, _ => by rw [show n = 0 by omega]
  | m + 1, h, hz => by
    rcases Nat.lt_or_ge m n with h1 | h1
    · rw [show n = m + 1 by omega]
    · rw [← vr_more h1 hz, vr, if_pos (hz m h1)]
noncomputable def vars (f : Poly) : Nat := (vr f.c f.sz).1

theorem varsP {i : Nat} {ps : List RI} (hi : i ≤ 12) (hp : W i ps) : Fn Try.prog 78 [.d (rp ps)] [] (.d (.int .i64 (vars (pol ps) : Nat))) [] := by
  refine fn0 (nt := 34) (res := [.tmp 2]) Try.func78 rfl (by decide) rfl rfl rfl rfl ?_
  intro Cx hP hnt hl
  obtain ⟨f, hf⟩ : ∃ f, f = pol ps := ⟨_, rfl⟩
  have hv : vars f = (vr f.c ps.length).1 := by
    unfold vars
    rw [vr_more (n := f.sz) (m := ps.length) (hf ▸ pol_sz ps) fun k hk => above hk]
  have h4 := lim4 hi
  have h2 := lim2 hi
  have hpl : ps.length ≤ 2 ^ 36 := by have := hp.len; omega
  rw [← hf, hv]
  refine awp_sx prog_ok hP hnt [] [] [] [0] (by kernel_rfl) (G := fun K => K (St.mk [(0, V.d (rp ps))] [] 1)) (fun K => by kernel_rfl) ?_
  refine awp_sx prog_ok hP hnt [] [] [] [0, 3, 4] (by kernel_rfl) (G := fun K => K (St.mk [(0, V.d (rp ps)), (3, V.d (D.int IntKind.i64 (0 : Int))), (4, V.d (D.int IntKind.i64 (0 : Int)))] [] 3)) (fun K => by kernel_rfl) ?_
  refine awp_cut (ι := Unit) (fun _ => ⟨[(3, .d (.int .i64 (vr f.c ps.length).1))], [], 0⟩) (fun _ => True) ?_ ?_
  · refine awp_sx prog_ok hP hnt [] [] [] [3, 4, 8, 9, 10] (by kernel_rfl) (G := fun K => K (St.mk [(3, V.d (D.int IntKind.i64 (0 : Int))), (4, V.d (D.int IntKind.i64 (0 : Int))), (8, V.d (rp ps)), (9, V.d (D.int IntKind.i64 (↑ps.length : Int))), (10, V.d (D.int IntKind.i64 (0 : Int)))] [] 6)) (fun K => by kernel_rfl) ?_
    refine awp_block ?_
    refine awp_loop (ι := Nat) (fun k => ⟨[(3, .d (.int .i64 (vr f.c k).1)), (4, .d (.int .i64 (vr f.c k).2.sign)), (8, .d (rp ps)), (9, .d (.int .i64 ps.length)), (10, .d (.int .i64 k))], [], 0⟩)
      (fun k => k ≤ ps.length) (fun k => ps.length - k) 0 [] (by omega) ?_ ?_
    · (constructor <;> simp [hl, envOk, memOk, conv, St.get, St.blk, vr])
    intro k hk
    refine awp_sx prog_ok hP hnt [] [] [] [3, 4, 8, 9, 10, 11] (by kernel_rfl) (G := fun K => K (St.mk [(3, V.d (D.int IntKind.i64 (↑(vr f.c k).fst : Int))), (4, V.d (D.int IntKind.i64 (vr f.c k).snd.sign)), (8, V.d (rp ps)), (9, V.d (D.int IntKind.i64 (↑ps.length : Int))), (10, V.d (D.int IntKind.i64 (↑k : Int))), (11, V.d (D.bool (decide ((↑k : Int) < (↑ps.length : Int)))))] [] 1)) (fun K => by kernel_rfl) ?_
    refine awp_seq_k fun K1 hK1 => ?_
    refine awp_cond rfl (fun e => awp_skip (hK1 _ ?_)) (fun e => awp_exit ⟨(), [], trivial, ?_⟩)
    · simp at e
      obtain ⟨p, hp1⟩ := get_ex (l := ps) (i := k) e
      have hpo := hp.ok p (List.mem_of_getElem? hp1)
      have hfx : ival p.1 p.2 = f.c k := by rw [hf, pol_c, co_some hp1]; rfl
      have hs := sign_fn p.1 p.2 (by have := hpo.2; omega) hpo.1
      rw [hfx] at hs
      have hvl := vr_le f.c k
      refine awp_seq_k fun K2 hK2 => ?_
      refine awp_block ?_
      refine awp_sx prog_ok hP hnt [] [] [some [.bool p.1, du p.2]] [3, 4, 6, 8, 9, 10] (by kernel_rfl) (G := fun K => ((0 : Int) ≤ (↑k : Int) ∧ (↑k : Int) < (↑ps.length : Int) ∧ ((↑k : Int).toNat + 1) * 2 ≤ (rc ps).length) ∧ ((List.drop ((↑k : Int).toNat * 2) (rc ps))[0]? = some (D.bool p.fst) ∧ (List.drop ((↑k : Int).toNat * 2) (rc ps))[1]? = some (du p.snd)) ∧ 0 + [D.bool p.fst, du p.snd].length ≤ (TI.mk (Kind.struct [(0, 1), (1, 1)]) 2 32 [D.bool false, D.lst 0 []]).zero.length ∧ K (St.mk [(3, V.d (D.int IntKind.i64 (↑(vr f.c k).fst : Int))), (4, V.d (D.int IntKind.i64 (vr f.c k).snd.sign)), (8, V.d (rp ps)), (9, V.d (D.int IntKind.i64 (↑ps.length : Int))), (10, V.d (D.int IntKind.i64 (↑k : Int))), (6, V.ptr 3 0)] [(3, some (Blk.mk [D.bool p.fst, du p.snd] true))] 5)) (fun K => by kernel_rfl) ?_
      refine ⟨⟨by omega, by omega, by simp; omega⟩, by rw [rc_drop0 hp1]; exact ⟨rfl, rfl⟩, by simp, ?_⟩
      refine awp_sx prog_ok hP hnt [] [.val (.d (.int .i64 (f.c k).sign))] [some [.bool p.1, du p.2]] [3, 4, 7, 8, 9, 10] (by kernel_rfl) (G := fun K => ([D.bool p.fst, du p.snd][0]? = some (D.bool p.fst) ∧ [D.bool p.fst, du p.snd][1]? = some (du p.snd)) ∧ Fn Try.prog 102 [V.agg [D.bool p.fst, du p.snd]] [] (V.d (D.int IntKind.i64 (f.c k).sign)) [] ∧ K (St.mk [(3, V.d (D.int IntKind.i64 (↑(vr f.c k).fst : Int))), (4, V.d (D.int IntKind.i64 (vr f.c k).snd.sign)), (8, V.d (rp ps)), (9, V.d (D.int IntKind.i64 (↑ps.length : Int))), (10, V.d (D.int IntKind.i64 (↑k : Int))), (7, V.d (D.int IntKind.i64 (f.c k).sign))] [(3, some (Blk.mk [D.bool p.fst, du p.snd] true))] 8)) (fun K => by kernel_rfl) ?_
      refine ⟨⟨rfl, rfl⟩, hs, ?_⟩
      obtain ⟨V, hV⟩ : ∃ V, V = vr f.c k := ⟨_, rfl⟩
      have hV1 : vr f.c (k + 1) = if f.c k = 0 then V else (if V.2 ≠ 0 ∧ V.2.sign ≠ (f.c k).sign then V.1 + 1 else V.1, f.c k) := by rw [vr, hV]
      rw [← hV] at hvl ⊢
      have hlast : ∀ (s' : St), K2 s' → True := fun _ _ => trivial
      refine awp_cut (ι := Unit) (fun _ => ⟨[(3, .d (.int .i64 (vr f.c (k + 1)).1)), (4, .d (.int .i64 V.2.sign)), (7, .d (.int .i64 (f.c k).sign)), (8, .d (rp ps)), (9, .d (.int .i64 ps.length)), (10, .d (.int .i64 k))], [], 0⟩) (fun _ => True) ?_ ?_
      · by_cases hz : f.c k = 0
        · rw [hV1, if_pos hz]
          refine awp_sx prog_ok hP hnt [(17, .bool false), (21, .bool false), (26, .bool false)] [] [] [3, 4, 7, 8, 9, 10, 26] (by kernel_rfl) (G := fun K => ((f.c k).sign != (0 : Int)) = false ∧ false = false ∧ false = false ∧ K (St.mk [(3, Abs.V.d (D.int IntKind.i64 (↑V.fst : Int))), (4, Abs.V.d (D.int IntKind.i64 V.snd.sign)), (8, Abs.V.d (rp ps)), (9, Abs.V.d (D.int IntKind.i64 (↑ps.length : Int))), (10, Abs.V.d (D.int IntKind.i64 (↑k : Int))), (7, Abs.V.d (D.int IntKind.i64 (f.c k).sign)), (26, Abs.V.d (D.bool false))] [(3, some (Blk.mk [D.bool p.fst, du p.snd] true))] 19)) (fun K => by kernel_rfl) ?_
          refine ⟨by rw [hz]; rfl, rfl, rfl, awp_cond (b := false) rfl nofun fun _ => awp_skip ⟨(), [], trivial, ?_⟩⟩
          (constructor <;> simp [hl, envOk, memOk, conv, St.get, St.blk])
        · have hsz : ((f.c k).sign != 0) = true := by simp [Int.sign_eq_zero_iff_zero]; exact hz
          rw [hV1, if_neg hz]
          by_cases hl0 : V.2 = 0
          · refine awp_sx prog_ok hP hnt [(17, .bool true), (20, .bool false), (21, .bool false), (26, .bool false)] [] [] [3, 4, 7, 8, 9, 10, 26] (by kernel_rfl) (G := fun K => ((f.c k).sign != (0 : Int)) = true ∧ (V.snd.sign != (0 : Int)) = false ∧ false = false ∧ false = false ∧ K (St.mk [(3, Abs.V.d (D.int IntKind.i64 (↑V.fst : Int))), (4, Abs.V.d (D.int IntKind.i64 V.snd.sign)), (8, Abs.V.d (rp ps)), (9, Abs.V.d (D.int IntKind.i64 (↑ps.length : Int))), (10, Abs.V.d (D.int IntKind.i64 (↑k : Int))), (7, Abs.V.d (D.int IntKind.i64 (f.c k).sign)), (26, Abs.V.d (D.bool false))] [(3, some (Blk.mk [D.bool p.fst, du p.snd] true))] 19)) (fun K => by kernel_rfl) ?_
            refine ⟨hsz, by rw [hl0]; rfl, rfl, rfl, awp_cond (b := false) rfl nofun fun _ => awp_skip ⟨(), [], trivial, ?_⟩⟩
            rw [if_neg (by simp [hl0])]
            (constructor <;> simp [hl, envOk, memOk, conv, St.get, St.blk])
          · have hs2 : (V.2.sign != 0) = true := by simp [Int.sign_eq_zero_iff_zero]; exact hl0
            refine awp_sx prog_ok hP hnt [(17, .bool true), (20, .bool true), (21, .bool true)] [] [] [3, 4, 7, 8, 9, 10, 26] (by kernel_rfl) (G := fun K => ((f.c k).sign != (0 : Int)) = true ∧ (V.snd.sign != (0 : Int)) = true ∧ true = true ∧ K (St.mk [(3, Abs.V.d (D.int IntKind.i64 (↑V.fst : Int))), (4, Abs.V.d (D.int IntKind.i64 V.snd.sign)), (8, Abs.V.d (rp ps)), (9, Abs.V.d (D.int IntKind.i64 (↑ps.length : Int))), (10, Abs.V.d (D.int IntKind.i64 (↑k : Int))), (7, Abs.V.d (D.int IntKind.i64 (f.c k).sign)), (26, Abs.V.d (D.bool ((f.c k).sign != V.snd.sign)))] [(3, some (Blk.mk [D.bool p.fst, du p.snd] true))] 19)) (fun K => by kernel_rfl) ?_
            refine ⟨hsz, hs2, rfl, awp_cond rfl (fun e2 => ?_) (fun e2 => awp_skip ⟨(), [], trivial, ?_⟩)⟩
            · simp at e2
              rw [if_pos ⟨hl0, fun h => e2 h.symm⟩]
              refine awp_x prog_ok hP hnt [(28, .int .i64 (V.1 + 1 : Nat))] [] [] [3, 4, 7, 8, 9, 10] (by kernel_rfl) (G := fun K => IntKind.i64.wrap ((↑V.fst : Int) + (1 : Int)) = (↑(V.fst + 1) : Int) ∧ K (St.mk [(3, Abs.V.d (D.int IntKind.i64 (↑(V.fst + 1) : Int))), (4, Abs.V.d (D.int IntKind.i64 V.snd.sign)), (8, Abs.V.d (rp ps)), (9, Abs.V.d (D.int IntKind.i64 (↑ps.length : Int))), (10, Abs.V.d (D.int IntKind.i64 (↑k : Int))), (7, Abs.V.d (D.int IntKind.i64 (f.c k).sign))] [(3, some (Blk.mk [D.bool p.fst, du p.snd] true))] 22)) (fun K => by kernel_rfl) ?_
              refine ⟨by rw [w64] <;> omega, (), [], trivial, ?_⟩
              (constructor <;> simp [hl, envOk, memOk, conv, St.get, St.blk])
            · simp at e2
              rw [if_neg (by rw [e2]; simp)]
              (constructor <;> simp [hl, envOk, memOk, conv, St.get, St.blk])
      intro _ _
      by_cases hz : f.c k = 0
      · refine awp_sx prog_ok hP hnt [(30, .bool false)] [] [] [3, 4, 7, 8, 9, 10, 30] (by kernel_rfl) (G := fun K => ((f.c k).sign != (0 : Int)) = false ∧ K (St.mk [(3, Abs.V.d (D.int IntKind.i64 (↑(vr f.c (k + 1)).fst : Int))), (4, Abs.V.d (D.int IntKind.i64 V.snd.sign)), (7, Abs.V.d (D.int IntKind.i64 (f.c k).sign)), (8, Abs.V.d (rp ps)), (9, Abs.V.d (D.int IntKind.i64 (↑ps.length : Int))), (10, Abs.V.d (D.int IntKind.i64 (↑k : Int))), (30, Abs.V.d (D.bool false))] [] 2)) (fun K => by kernel_rfl) ?_
        refine ⟨by rw [hz]; rfl, awp_cond (b := false) rfl nofun fun _ => awp_skip (hK2 _ ?_)⟩
        refine awp_x prog_ok hP hnt [(32, .int .i64 (k + 1 : Nat))] [] [] [3, 4, 8, 9, 10] (by kernel_rfl) (G := fun K => IntKind.i64.wrap ((↑k : Int) + (1 : Int)) = (↑(k + 1) : Int) ∧ K (St.mk [(3, Abs.V.d (D.int IntKind.i64 (↑(vr f.c (k + 1)).fst : Int))), (4, Abs.V.d (D.int IntKind.i64 V.snd.sign)), (8, Abs.V.d (rp ps)), (9, Abs.V.d (D.int IntKind.i64 (↑ps.length : Int))), (10, Abs.V.d (D.int IntKind.i64 (↑(k + 1) : Int)))] [] 4)) (fun K => by kernel_rfl) ?_
        refine ⟨by rw [w64] <;> omega, k + 1, [], ⟨by omega, by omega⟩, ?_⟩
        have : (vr f.c (k + 1)).2 = V.2 := by rw [hV1, if_pos hz]
        rw [this]
        (constructor <;> simp [hl, envOk, memOk, conv, St.get, St.blk])
      · have hsz : ((f.c k).sign != 0) = true := by simp [Int.sign_eq_zero_iff_zero]; exact hz
        refine awp_sx prog_ok hP hnt [(30, .bool true)] [] [] [3, 4, 7, 8, 9, 10, 30] (by kernel_rfl) (G := fun K => ((f.c k).sign != (0 : Int)) = true ∧ K (St.mk [(3, Abs.V.d (D.int IntKind.i64 (↑(vr f.c (k + 1)).fst : Int))), (4, Abs.V.d (D.int IntKind.i64 V.snd.sign)), (7, Abs.V.d (D.int IntKind.i64 (f.c k).sign)), (8, Abs.V.d (rp ps)), (9, Abs.V.d (D.int IntKind.i64 (↑ps.length : Int))), (10, Abs.V.d (D.int IntKind.i64 (↑k : Int))), (30, Abs.V.d (D.bool true))] [] 2)) (fun K => by kernel_rfl) ?_
        refine ⟨hsz, awp_cond (b := true) rfl (fun _ => ?_) nofun⟩
        refine awp_x prog_ok hP hnt [] [] [] [3, 4, 8, 9, 10] (by kernel_rfl) (G := fun K => K (St.mk [(3, Abs.V.d (D.int IntKind.i64 (↑(vr f.c (k + 1)).fst : Int))), (4, Abs.V.d (D.int IntKind.i64 (f.c k).sign)), (8, Abs.V.d (rp ps)), (9, Abs.V.d (D.int IntKind.i64 (↑ps.length : Int))), (10, Abs.V.d (D.int IntKind.i64 (↑k : Int)))] [] 4)) (fun K => by kernel_rfl) ?_
        refine hK2 _ ?_
        refine awp_x prog_ok hP hnt [(32, .int .i64 (k + 1 : Nat))] [] [] [3, 4, 8, 9, 10] (by kernel_rfl) (G := fun K => IntKind.i64.wrap ((↑k : Int) + (1 : Int)) = (↑(k + 1) : Int) ∧ K (St.mk [(3, Abs.V.d (D.int IntKind.i64 (↑(vr f.c (k + 1)).fst : Int))), (4, Abs.V.d (D.int IntKind.i64 (f.c k).sign)), (8, Abs.V.d (rp ps)), (9, Abs.V.d (D.int IntKind.i64 (↑ps.length : Int))), (10, Abs.V.d (D.int IntKind.i64 (↑(k + 1) : Int)))] [] 6)) (fun K => by kernel_rfl) ?_
        refine ⟨by rw [w64] <;> omega, k + 1, [], ⟨by omega, by omega⟩, ?_⟩
        have : (vr f.c (k + 1)).2 = f.c k := by rw [hV1, if_neg hz]
        rw [this]
        (constructor <;> simp [hl, envOk, memOk, conv, St.get, St.blk])
    · simp at e
      have : k = ps.length := by omega
      subst this
      (constructor <;> simp [hl, envOk, memOk, conv, St.get, St.blk])
  intro _ _
  refine awp_sx prog_ok hP hnt [] [] [] [2] (by kernel_rfl) (G := fun K => K (St.mk [(2, V.d (D.int IntKind.i64 (↑(vr f.c ps.length).fst : Int)))] [] 2)) (fun K => by kernel_rfl) ?_
  exact awp_ret ⟨.inl rfl, retD rfl⟩
end Go.Abs

set_option linter.unusedVariables false
set_option linter.unusedSimpArgs false
namespace Go.Abs
open Go Go.Proofs Poly
set_option maxRecDepth 100000

theorem rvars_fn (l : List Int) (hn : l.length ≤ 2 ^ 30) (h64 : In64 l) : Fn Try.prog 83 [.d (.lst l.length (i64s l))] [] (.d (.int .i64 ((vr (fun k => l.getD k 0) l.length).1 : Nat))) [] := by
  refine fn0 (nt := 44) (res := [.tmp 2]) Try.func83 rfl (by decide) rfl rfl rfl rfl ?_
  intro Cx hP hnt hl
  obtain ⟨F, hF⟩ : ∃ F : Nat → Int, F = fun k => l.getD k 0 := ⟨_, rfl⟩
  rw [← hF]
  refine awp_sx prog_ok hP hnt [] [] [] [0] (by kernel_rfl) (G := fun K => K (St.mk [(0, V.d (D.lst l.length (i64s l)))] [] 1)) (fun K => by kernel_rfl) ?_
  refine awp_sx prog_ok hP hnt [] [] [] [0, 3] (by kernel_rfl) (G := fun K => K (St.mk [(0, V.d (D.lst l.length (i64s l))), (3, V.d (D.int IntKind.i64 (0 : Int)))] [] 2)) (fun K => by kernel_rfl) ?_
  refine awp_sx prog_ok hP hnt [] [] [] [0, 3, 4] (by kernel_rfl) (G := fun K => K (St.mk [(0, V.d (D.lst l.length (i64s l))), (3, V.d (D.int IntKind.i64 (0 : Int))), (4, V.d (D.int IntKind.i64 (0 : Int)))] [] 3)) (fun K => by kernel_rfl) ?_
  refine awp_cut (ι := Unit) (fun _ => ⟨[(3, .d (.int .i64 (vr F l.length).1))], [], 0⟩) (fun _ => True) ?_ ?_
  · refine awp_sx prog_ok hP hnt [] [] [] [0, 3, 4, 5] (by kernel_rfl) (G := fun K => K (St.mk [(0, V.d (D.lst l.length (i64s l))), (3, V.d (D.int IntKind.i64 (0 : Int))), (4, V.d (D.int IntKind.i64 (0 : Int))), (5, V.d (D.int IntKind.i64 (0 : Int)))] [] 4)) (fun K => by kernel_rfl) ?_
    refine awp_block ?_
    refine awp_loop (ι := Nat) (fun k => ⟨[(0, .d (.lst l.length (i64s l))), (3, .d (.int .i64 (vr F k).1)), (4, .d (.int .i64 (vr F k).2)), (5, .d (.int .i64 k))], [], 0⟩)
      (fun k => k ≤ l.length) (fun k => l.length - k) 0 [] (by omega) ?_ ?_
    · (constructor <;> simp [hl, envOk, memOk, conv, St.get, St.blk, vr])
    intro k hk
    refine awp_seq_k fun K1 hK1 => ?_
    refine awp_sx prog_ok hP hnt [] [] [] [0, 3, 4, 5, 9] (by kernel_rfl) (G := fun K => K (St.mk [(0, V.d (D.lst l.length (i64s l))), (3, V.d (D.int IntKind.i64 (↑(vr F k).fst : Int))), (4, V.d (D.int IntKind.i64 (vr F k).snd)), (5, V.d (D.int IntKind.i64 (↑k : Int))), (9, V.d (D.bool (decide ((↑k : Int) < (↑l.length : Int)))))] [] 4)) (fun K => by kernel_rfl) ?_
    refine awp_cond rfl (fun e => awp_skip (hK1 _ ?_)) (fun e => awp_exit ⟨(), [], trivial, ?_⟩)
    · simp at e
      obtain ⟨z, hz⟩ := get_ex (l := l) (i := k) e
      have hzF : F k = z := by rw [hF]; simp only; rw [List.getD_eq_getElem?_getD, hz]; rfl
      have hvl := vr_le F k
      obtain ⟨V, hV⟩ : ∃ V, V = vr F k := ⟨_, rfl⟩
      have hV1 : vr F (k + 1) = if z = 0 then V else (if V.2 ≠ 0 ∧ V.2.sign ≠ z.sign then V.1 + 1 else V.1, z) := by rw [vr, hV, hzF]
      rw [← hV] at hvl ⊢
      have hb : (0 : Int) ≤ (k : Int) ∧ (k : Int) < (l.length : Int) ∧ ((k : Int).toNat + 1) * 1 ≤ (i64s l).length := ⟨by omega, by omega, by simp; omega⟩
      have hg : (List.drop ((k : Int).toNat * 1) (i64s l))[0]? = some (D.int .i64 z) := by simp [hz]
      refine awp_cut (ι := Unit) (fun _ => ⟨[(0, .d (.lst l.length (i64s l))), (3, .d (.int .i64 (vr F (k + 1)).1)), (4, .d (.int .i64 (vr F (k + 1)).2)), (5, .d (.int .i64 k))], [], 0⟩) (fun _ => True) ?_ ?_
      · refine awp_block ?_
        refine awp_seq_k fun K2 hK2 => ?_
        by_cases h0 : z = 0
        · rw [hV1, if_pos h0] at *
          refine awp_sx prog_ok hP hnt [(16, .bool true)] [] [some [.int .i64 z]] [0, 3, 4, 5, 16] (by kernel_rfl) (G := fun K => ((0 : Int) ≤ (↑k : Int) ∧ (↑k : Int) < (↑l.length : Int) ∧ ((↑k : Int).toNat + 1) * 1 ≤ (i64s l).length) ∧ (List.drop ((↑k : Int).toNat * 1) (i64s l))[0]? = some (D.int IntKind.i64 z) ∧ (z == (0 : Int)) = true ∧ K (St.mk [(0, Abs.V.d (D.lst l.length (i64s l))), (3, Abs.V.d (D.int IntKind.i64 (↑V.fst : Int))), (4, Abs.V.d (D.int IntKind.i64 V.snd)), (5, Abs.V.d (D.int IntKind.i64 (↑k : Int))), (16, Abs.V.d (D.bool true))] [] 9)) (fun K => by kernel_rfl) ?_
          refine ⟨hb, hg, by rw [h0]; rfl, awp_cond (b := true) rfl (fun _ => awp_exit ⟨(), [], trivial, ?_⟩) nofun⟩
          (constructor <;> simp [hl, envOk, memOk, conv, St.get, St.blk])
        · refine awp_sx prog_ok hP hnt [(16, .bool false)] [] [some [.int .i64 z]] [0, 3, 4, 5, 16] (by kernel_rfl) (G := fun K => ((0 : Int) ≤ (↑k : Int) ∧ (↑k : Int) < (↑l.length : Int) ∧ ((↑k : Int).toNat + 1) * 1 ≤ (i64s l).length) ∧ (List.drop ((↑k : Int).toNat * 1) (i64s l))[0]? = some (D.int IntKind.i64 z) ∧ (z == (0 : Int)) = false ∧ K (St.mk [(0, Abs.V.d (D.lst l.length (i64s l))), (3, Abs.V.d (D.int IntKind.i64 (↑V.fst : Int))), (4, Abs.V.d (D.int IntKind.i64 V.snd)), (5, Abs.V.d (D.int IntKind.i64 (↑k : Int))), (16, Abs.V.d (D.bool false))] [] 9)) (fun K => by kernel_rfl) ?_
          refine ⟨hb, hg, by simp; exact h0, awp_cond (b := false) rfl nofun fun _ => awp_skip (hK2 _ ?_)⟩
          rw [if_neg h0] at hV1
          refine awp_cut (ι := Unit) (fun _ => ⟨[(0, .d (.lst l.length (i64s l))), (3, .d (.int .i64 (vr F (k + 1)).1)), (5, .d (.int .i64 k))], [], 0⟩) (fun _ => True) ?_ ?_
          · rw [hV1]
            by_cases hneg : V.2 < 0
            · have hs1 : V.2.sign = -1 := Int.sign_eq_neg_one_of_neg hneg
              by_cases hzp : 0 < z
              · have hs2 : z.sign = 1 := Int.sign_eq_one_of_pos hzp
                refine awp_sx prog_ok hP hnt [(18, .bool true), (24, .bool true), (25, .bool true), (36, .bool true)] [] [some [.int .i64 z]] [0, 3, 5, 36] (by kernel_rfl) (G := fun K => decide (V.snd < (0 : Int)) = true ∧ ((0 : Int) ≤ (↑k : Int) ∧ (↑k : Int) < (↑l.length : Int) ∧ ((↑k : Int).toNat + 1) * 1 ≤ (i64s l).length) ∧ (List.drop ((↑k : Int).toNat * 1) (i64s l))[0]? = some (D.int IntKind.i64 z) ∧ decide (z > (0 : Int)) = true ∧ true = true ∧ true = true ∧ K (St.mk [(0, Abs.V.d (D.lst l.length (i64s l))), (3, Abs.V.d (D.int IntKind.i64 (↑V.fst : Int))), (5, Abs.V.d (D.int IntKind.i64 (↑k : Int))), (36, Abs.V.d (D.bool true))] [] 29)) (fun K => by kernel_rfl) ?_
                refine ⟨by simp; omega, hb, hg, by simp; omega, rfl, rfl, awp_cond (b := true) rfl (fun _ => ?_) nofun⟩
                rw [if_pos ⟨by omega, by omega⟩]
                refine awp_x prog_ok hP hnt [(38, .int .i64 (V.1 + 1 : Nat))] [] [] [0, 3, 5] (by kernel_rfl) (G := fun K => IntKind.i64.wrap ((↑V.fst : Int) + (1 : Int)) = (↑(V.fst + 1) : Int) ∧ K (St.mk [(0, Abs.V.d (D.lst l.length (i64s l))), (3, Abs.V.d (D.int IntKind.i64 (↑(V.fst + 1) : Int))), (5, Abs.V.d (D.int IntKind.i64 (↑k : Int)))] [] 32)) (fun K => by kernel_rfl) ?_
                refine ⟨by rw [w64] <;> omega, (), [], trivial, ?_⟩
                (constructor <;> simp [hl, envOk, memOk, conv, St.get, St.blk])
              · have hs2 : z.sign = -1 := Int.sign_eq_neg_one_of_neg (by omega)
                refine awp_sx prog_ok hP hnt [(18, .bool true), (24, .bool false), (25, .bool false), (28, .bool false), (35, .bool false), (36, .bool false)] [] [some [.int .i64 z]] [0, 3, 5, 36] (by kernel_rfl) (G := fun K => decide (V.snd < (0 : Int)) = true ∧ ((0 : Int) ≤ (↑k : Int) ∧ (↑k : Int) < (↑l.length : Int) ∧ ((↑k : Int).toNat + 1) * 1 ≤ (i64s l).length) ∧ (List.drop ((↑k : Int).toNat * 1) (i64s l))[0]? = some (D.int IntKind.i64 z) ∧ decide (z > (0 : Int)) = false ∧ false = false ∧ decide (V.snd > (0 : Int)) = false ∧ false = false ∧ false = false ∧ K (St.mk [(0, Abs.V.d (D.lst l.length (i64s l))), (3, Abs.V.d (D.int IntKind.i64 (↑V.fst : Int))), (5, Abs.V.d (D.int IntKind.i64 (↑k : Int))), (36, Abs.V.d (D.bool false))] [] 29)) (fun K => by kernel_rfl) ?_
                refine ⟨by simp; omega, hb, hg, by simp; omega, rfl, by simp; omega, rfl, rfl, awp_cond (b := false) rfl nofun fun _ => awp_skip ⟨(), [], trivial, ?_⟩⟩
                rw [if_neg (by omega)]
                (constructor <;> simp [hl, envOk, memOk, conv, St.get, St.blk])
            · by_cases hpos : 0 < V.2
              · have hs1 : V.2.sign = 1 := Int.sign_eq_one_of_pos hpos
                by_cases hzn : z < 0
                · have hs2 : z.sign = -1 := Int.sign_eq_neg_one_of_neg hzn
                  refine awp_sx prog_ok hP hnt [(18, .bool false), (25, .bool false), (28, .bool true), (34, .bool true), (35, .bool true), (36, .bool true)] [] [some [.int .i64 z]] [0, 3, 5, 36] (by kernel_rfl) (G := fun K => decide (V.snd < (0 : Int)) = false ∧ false = false ∧ decide (V.snd > (0 : Int)) = true ∧ ((0 : Int) ≤ (↑k : Int) ∧ (↑k : Int) < (↑l.length : Int) ∧ ((↑k : Int).toNat + 1) * 1 ≤ (i64s l).length) ∧ (List.drop ((↑k : Int).toNat * 1) (i64s l))[0]? = some (D.int IntKind.i64 z) ∧ decide (z < (0 : Int)) = true ∧ true = true ∧ true = true ∧ K (St.mk [(0, Abs.V.d (D.lst l.length (i64s l))), (3, Abs.V.d (D.int IntKind.i64 (↑V.fst : Int))), (5, Abs.V.d (D.int IntKind.i64 (↑k : Int))), (36, Abs.V.d (D.bool true))] [] 29)) (fun K => by kernel_rfl) ?_
                  refine ⟨by simp; omega, rfl, by simp; omega, hb, hg, by simp; omega, rfl, rfl, awp_cond (b := true) rfl (fun _ => ?_) nofun⟩
                  rw [if_pos ⟨by omega, by omega⟩]
                  refine awp_x prog_ok hP hnt [(38, .int .i64 (V.1 + 1 : Nat))] [] [] [0, 3, 5] (by kernel_rfl) (G := fun K => IntKind.i64.wrap ((↑V.fst : Int) + (1 : Int)) = (↑(V.fst + 1) : Int) ∧ K (St.mk [(0, Abs.V.d (D.lst l.length (i64s l))), (3, Abs.V.d (D.int IntKind.i64 (↑(V.fst + 1) : Int))), (5, Abs.V.d (D.int IntKind.i64 (↑k : Int)))] [] 32)) (fun K => by kernel_rfl) ?_
                  refine ⟨by rw [w64] <;> omega, (), [], trivial, ?_⟩
                  (constructor <;> simp [hl, envOk, memOk, conv, St.get, St.blk])
                · have hs2 : z.sign = 1 := Int.sign_eq_one_of_pos (by omega)
                  refine awp_sx prog_ok hP hnt [(18, .bool false), (25, .bool false), (28, .bool true), (34, .bool false), (35, .bool false), (36, .bool false)] [] [some [.int .i64 z]] [0, 3, 5, 36] (by kernel_rfl) (G := fun K => decide (V.snd < (0 : Int)) = false ∧ false = false ∧ decide (V.snd > (0 : Int)) = true ∧ ((0 : Int) ≤ (↑k : Int) ∧ (↑k : Int) < (↑l.length : Int) ∧ ((↑k : Int).toNat + 1) * 1 ≤ (i64s l).length) ∧ (List.drop ((↑k : Int).toNat * 1) (i64s l))[0]? = some (D.int IntKind.i64 z) ∧ decide (z < (0 : Int)) = false ∧ false = false ∧ false = false ∧ K (St.mk [(0, Abs.V.d (D.lst l.length (i64s l))), (3, Abs.V.d (D.int IntKind.i64 (↑V.fst : Int))), (5, Abs.V.d (D.int IntKind.i64 (↑k : Int))), (36, Abs.V.d (D.bool false))] [] 29)) (fun K => by kernel_rfl) ?_
                  refine ⟨by simp; omega, rfl, by simp; omega, hb, hg, by simp; omega, rfl, rfl, awp_cond (b := false) rfl nofun fun _ => awp_skip ⟨(), [], trivial, ?_⟩⟩
                  rw [if_neg (by omega)]
                  (constructor <;> simp [hl, envOk, memOk, conv, St.get, St.blk])
              · have hz0 : V.2 = 0 := by omega
                refine awp_sx prog_ok hP hnt [(18, .bool false), (25, .bool false), (28, .bool false), (35, .bool false), (36, .bool false)] [] [] [0, 3, 5, 36] (by kernel_rfl) (G := fun K => decide (V.snd < (0 : Int)) = false ∧ false = false ∧ decide (V.snd > (0 : Int)) = false ∧ false = false ∧ false = false ∧ K (St.mk [(0, Abs.V.d (D.lst l.length (i64s l))), (3, Abs.V.d (D.int IntKind.i64 (↑V.fst : Int))), (5, Abs.V.d (D.int IntKind.i64 (↑k : Int))), (36, Abs.V.d (D.bool false))] [] 29)) (fun K => by kernel_rfl) ?_
                refine ⟨by simp; omega, rfl, by simp; omega, rfl, rfl, awp_cond (b := false) rfl nofun fun _ => awp_skip ⟨(), [], trivial, ?_⟩⟩
                rw [if_neg (by omega)]
                (constructor <;> simp [hl, envOk, memOk, conv, St.get, St.blk])
          intro _ _
          have h2 : (vr F (k + 1)).2 = z := by rw [hV1]
          refine awp_x prog_ok hP hnt [] [] [some [.int .i64 z]] [0, 3, 4, 5] (by kernel_rfl) (G := fun K => ((0 : Int) ≤ (↑k : Int) ∧ (↑k : Int) < (↑l.length : Int) ∧ ((↑k : Int).toNat + 1) * 1 ≤ (i64s l).length) ∧ (List.drop ((↑k : Int).toNat * 1) (i64s l))[0]? = some (D.int IntKind.i64 z) ∧ K (St.mk [(0, Abs.V.d (D.lst l.length (i64s l))), (3, Abs.V.d (D.int IntKind.i64 (↑(vr F (k + 1)).fst : Int))), (5, Abs.V.d (D.int IntKind.i64 (↑k : Int))), (4, Abs.V.d (D.int IntKind.i64 z))] [] 5)) (fun K => by kernel_rfl) ?_
          refine ⟨hb, hg, (), [], trivial, ?_⟩
          rw [h2]
          (constructor <;> simp [hl, envOk, memOk, conv, St.get, St.blk])
      intro _ _
      refine awp_x prog_ok hP hnt [(11, .int .i64 (k + 1 : Nat))] [] [] [0, 3, 4, 5] (by kernel_rfl) (G := fun K => IntKind.i64.wrap ((↑k : Int) + (1 : Int)) = (↑(k + 1) : Int) ∧ K (St.mk [(0, Abs.V.d (D.lst l.length (i64s l))), (3, Abs.V.d (D.int IntKind.i64 (↑(vr F (k + 1)).fst : Int))), (4, Abs.V.d (D.int IntKind.i64 (vr F (k + 1)).snd)), (5, Abs.V.d (D.int IntKind.i64 (↑(k + 1) : Int)))] [] 3)) (fun K => by kernel_rfl) ?_
      refine ⟨by rw [w64] <;> omega, k + 1, [], ⟨by omega, by omega⟩, ?_⟩
      (constructor <;> simp [hl, envOk, memOk, conv, St.get, St.blk])
    · simp at e
      have : k = l.length := by omega
      subst this
      (constructor <;> simp [hl, envOk, memOk, conv, St.get, St.blk])
  intro _ _
  refine awp_sx prog_ok hP hnt [] [] [] [2] (by kernel_rfl) (G := fun K => K (St.mk [(2, V.d (D.int IntKind.i64 (↑(vr F l.length).fst : Int)))] [] 2)) (fun K => by kernel_rfl) ?_
  exact awp_ret ⟨.inl rfl, retD rfl⟩

theorem wideL_len (n : Nat) (m : Int) (l : List Int) : (wideL n m l).length ≤ n := by unfold wideL; simp; omega
theorem clip_abs {m : Int} (h : 0 ≤ m) (x : Int) : (clip m x).natAbs ≤ m.natAbs := by unfold clip; omega
theorem wideL_abs {n : Nat} {m : Int} (h : 0 ≤ m) {l : List Int} : ∀ z ∈ wideL n m l, z.natAbs ≤ m.natAbs := fun z hz => by
  unfold wideL at hz
  obtain ⟨x, _, rfl⟩ := List.mem_map.1 hz
  exact clip_abs h x
theorem vars_polL (l : List Int) : vars (polL l) = (vr (fun k => l.getD k 0) l.length).1 := by
  unfold vars
  rw [← vr_more (n := (polL l).sz) (m := l.length) (polL_sz l) fun k hk => above hk]
  rfl
end Go.Abs

set_option linter.unusedVariables false
set_option linter.unusedSimpArgs false
namespace Go.Abs
open Go Go.Proofs Poly
set_option maxRecDepth 100000

theorem i64s_take (l : List Int) (n : Nat) : (i64s l).take n = i64s (l.take n) := by simp [i64s, List.map_take]
theorem i64s_at {l : List Int} {k : Nat} {z : Int} (h : l[k]? = some z) : (List.drop ((k : Int).toNat * 1) (i64s l))[0]? = some (D.int .i64 z) := by simp [h]

theorem cs_polL (l : List Int) : cs (polL l) = l.take (polL l).sz := by
  apply List.ext_getElem?
  intro k
  have hsz := polL_sz l
  rw [List.getElem?_take]
  by_cases h : k < (polL l).sz
  · rw [if_pos h, cs_get _ _ h, polL_c, List.getD_eq_getElem?_getD]
    obtain ⟨z, hz⟩ := get_ex (l := l) (i := k) (by omega)
    rw [hz]; rfl
  · rw [if_neg h, List.getElem?_eq_none (by simp; omega)]

theorem trim11_fn (l : List Int) (hn : l.length ≤ 2 ^ 40) : Fn Try.prog 175 [.d (.lst l.length (i64s l))] [] (.d (.lst (polL l).sz (i64s (cs (polL l))))) [] := by
  refine fn0 (nt := 21) (res := [.tmp 2]) Try.func175 rfl (by decide) rfl rfl rfl rfl ?_
  intro Cx hP hnt hl
  obtain ⟨f, hf⟩ : ∃ f, f = polL l := ⟨_, rfl⟩
  have hfs : f.sz ≤ l.length := hf ▸ polL_sz l
  have hcs := cs_polL l
  rw [← hf] at hcs ⊢
  refine awp_sx prog_ok hP hnt [] [] [] [0] (by kernel_rfl) (G := fun K => K (St.mk [(0, V.d (D.lst l.length (i64s l)))] [] 1)) (fun K => by kernel_rfl) ?_
  refine awp_sx prog_ok hP hnt [] [] [] [0, 3] (by kernel_rfl) (G := fun K => K (St.mk [(0, V.d (D.lst l.length (i64s l))), (3, V.d (D.int IntKind.i64 (↑l.length : Int)))] [] 4)) (fun K => by kernel_rfl) ?_
  refine awp_cut (ι := Unit) (fun _ => ⟨[(0, .d (.lst l.length (i64s l))), (3, .d (.int .i64 f.sz))], [], 0⟩) (fun _ => True) ?_ ?_
  · refine awp_block ?_
    refine awp_loop (ι := Nat) (fun n => ⟨[(0, .d (.lst l.length (i64s l))), (3, .d (.int .i64 n))], [], 0⟩) (fun n => n ≤ l.length ∧ zdeg f.c n = f.sz) (fun n => n) l.length [] ⟨Nat.le_refl _, zdeg_sz hfs⟩ ?_ ?_
    · (constructor <;> simp [hl, envOk, memOk, conv, St.get, St.blk])
    intro n ⟨hn2, hz⟩
    refine awp_seq_k fun K2 hK2 => ?_
    by_cases h0 : n = 0
    · subst h0
      refine awp_sx prog_ok hP hnt [(7, .bool false), (15, .bool false)] [] [] [0, 3, 15] (by kernel_rfl) (G := fun K => decide ((↑0 : Int) > (0 : Int)) = false ∧ false = false ∧ K (St.mk [(0, V.d (D.lst l.length (i64s l))), (3, V.d (D.int IntKind.i64 (↑0 : Int))), (15, V.d (D.bool false))] [] 10)) (fun K => by kernel_rfl) ?_
      refine ⟨rfl, rfl, awp_cond (b := false) rfl nofun fun _ => awp_exit ⟨(), [], trivial, ?_⟩⟩
      rw [← hz]
      (constructor <;> simp [hl, envOk, memOk, conv, St.get, St.blk, zdeg])
    · obtain ⟨z, hz1⟩ := get_ex (l := l) (i := n - 1) (by omega)
      have hzc : f.c (n - 1) = z := by rw [hf, polL_c, List.getD_eq_getElem?_getD, hz1]; rfl
      refine awp_sx prog_ok hP hnt [(7, .bool true), (11, .int .i64 (n - 1 : Nat))] [] [some [.int .i64 z]] [0, 3, 15] (by kernel_rfl) (G := fun K => decide ((↑n : Int) > (0 : Int)) = true ∧ IntKind.i64.wrap ((↑n : Int) - (1 : Int)) = (↑(n - 1) : Int) ∧ ((0 : Int) ≤ (↑(n - 1) : Int) ∧ (↑(n - 1) : Int) < (↑l.length : Int) ∧ ((↑(n - 1) : Int).toNat + 1) * 1 ≤ (i64s l).length) ∧ (List.drop ((↑(n - 1) : Int).toNat * 1) (i64s l))[0]? = some (D.int IntKind.i64 z) ∧ K (St.mk [(0, V.d (D.lst l.length (i64s l))), (3, V.d (D.int IntKind.i64 (↑n : Int))), (15, V.d (D.bool (z == (0 : Int))))] [] 10)) (fun K => by kernel_rfl) ?_
      refine ⟨by simp; omega, by rw [w64] <;> omega, ⟨by omega, by omega, by simp; omega⟩, i64s_at hz1, ?_⟩
      refine awp_cond rfl (fun hb => awp_skip (hK2 _ ?_)) (fun hb => awp_exit ⟨(), [], trivial, ?_⟩)
      · simp at hb
        refine awp_block ?_
        refine awp_x prog_ok hP hnt [(17, .int .i64 (n - 1 : Nat))] [] [] [0, 3] (by kernel_rfl) (G := fun K => IntKind.i64.wrap ((↑n : Int) - (1 : Int)) = (↑(n - 1) : Int) ∧ K (St.mk [(0, V.d (D.lst l.length (i64s l))), (3, V.d (D.int IntKind.i64 (↑(n - 1) : Int)))] [] 13)) (fun K => by kernel_rfl) ?_
        refine ⟨by rw [w64] <;> omega, n - 1, [], ⟨⟨by omega, ?_⟩, by omega⟩, ?_⟩
        · rw [← hz]; exact (zdeg_zero (by omega) (by rw [hzc]; exact hb)).symm
        · (constructor <;> simp [hl, envOk, memOk, conv, St.get, St.blk])
      · simp at hb
        have := zdeg_stop (f := f.c) (show 0 < n by omega) (by rw [hzc]; exact hb)
        rw [← hz, this]
        (constructor <;> simp [hl, envOk, memOk, conv, St.get, St.blk])
  intro _ _
  refine awp_sx prog_ok hP hnt [] [] [] [2] (by kernel_rfl) (G := fun K => ((0 : Int) ≤ (↑f.sz : Int) ∧ (↑f.sz : Int) ≤ (↑l.length : Int)) ∧ K (St.mk [(2, V.d (D.lst (↑f.sz : Int).toNat (List.take ((↑f.sz : Int).toNat * 1) (i64s l))))] [] 4)) (fun K => by kernel_rfl) ?_
  refine ⟨⟨by omega, by omega⟩, awp_ret ⟨.inl rfl, retD ?_⟩⟩
  rw [hcs, ← i64s_take]
  simp [St.get, lookup_one]

/-- Horner's scheme for f(x + c): the coefficients after k steps -/
def hn (F : Nat → Int) (L : Nat) (c : Int) : Nat → Nat → Int
  | 0, _ => 0
  | k + 1, i => (if i = 0 then F (L - 1 - k) else hn F L c k (i - 1)) + c * hn F L c k i
def hS : Nat → Nat
  | 0 => 0
  | k + 1 => 129 * hS k + 100
theorem hS_le6 : ∀ k, k ≤ 6 → hS k ≤ 10 ^ 13 := by decide
theorem hn_abs {F : Nat → Int} {L : Nat} {c : Int} (hF : ∀ k, (F k).natAbs ≤ 100) (hc : c.natAbs ≤ 128) : ∀ k i, (hn F L c k i).natAbs ≤ hS k
  | 0, i => by simp [hn, hS]
  | k + 1, i => by
    have h1 := hn_abs (L := L) hF hc k
    have h2 : (c * hn F L c k i).natAbs ≤ 128 * hS k := by rw [Int.natAbs_mul]; exact Nat.mul_le_mul hc (h1 i)
    have h3 := hF (L - 1 - k)
    have h4 := h1 (i - 1)
    unfold hn hS
    split <;> omega
theorem hn_van {F : Nat → Int} {L : Nat} {c : Int} : ∀ k i, k ≤ i → hn F L c k i = 0
  | 0, i, _ => rfl
  | k + 1, i, h => by
    unfold hn
    rw [if_neg (by omega), hn_van k (i - 1) (by omega), hn_van k i (by omega)]; simp
theorem evn_shift {a y : Int} {d : Nat → Int} (n : Nat) : evn (fun i => if i = 0 then a else d (i - 1)) (n + 1) y = a + y * evn d n y := by
  rw [evn]
  simp
theorem hn_ev {l : List Int} {c y : Int} : ∀ k, k ≤ l.length → evn (hn (fun k => l.getD k 0) l.length c k) k y = (polL (l.drop (l.length - k))).ev (y + c)
  | 0, _ => by simp [evn, ev_polL_nil]
  | k + 1, h => by
    have ih := hn_ev (l := l) (c := c) (y := y) k (by omega)
    have e1 : evn (hn (fun k => l.getD k 0) l.length c (k + 1)) (k + 1) y = evn (fun i => (if i = 0 then l.getD (l.length - 1 - k) 0 else hn (fun k => l.getD k 0) l.length c k (i - 1)) + c * hn (fun k => l.getD k 0) l.length c k i) (k + 1) y := rfl
    rw [e1, evn_add, evn_scale, evn_shift, evn_more (n := k) (m := k + 1) (by omega) (fun i hi => hn_van k i hi), ih]
    rw [show l.length - (k + 1) = l.length - 1 - k by omega, drop_cons (l := l) (i := l.length - 1 - k) (by omega), ev_polL_cons, show l.length - 1 - k + 1 = l.length - k by omega]
    grind
theorem evn_congr {x : Int} : ∀ {n : Nat} {c d : Nat → Int}, (∀ k, k < n → c k = d k) → evn c n x = evn d n x
  | 0, _, _, _ => rfl
  | n + 1, c, d, h => by
    rw [evn, evn, h 0 (by omega), evn_congr (n := n) fun k hk => h (k + 1) (by omega)]
theorem hn_poly (l : List Int) (c : Int) : polL (tb (hn (fun k => l.getD k 0) l.length c l.length) l.length) = comp (polL l) (X + C c) := ext_ev fun y _ => by
  have h1 := hn_ev (l := l) (c := c) (y := y) l.length (Nat.le_refl _)
  rw [Nat.sub_self, List.drop_zero] at h1
  rw [ev_comp]
  simp only [ev_add, ev_X, ev_C]
  rw [← h1]
  rw [ev_eq (n := l.length) (fun k hk => by rw [polL_c, List.getD_eq_getElem?_getD, List.getElem?_eq_none (by simpa using hk)]; rfl)]
  refine evn_congr fun k hk => ?_
  rw [polL_c, List.getD_eq_getElem?_getD, tb_get hk]; rfl

/-- the next row while it is filled -/
def nx (o : Nat → Int) (c : Int) (j i : Nat) : Int := if i < j then (if i = 0 then 0 else o (i - 1)) + c * o i else if i = j ∧ i ≠ 0 then o (i - 1) else 0

theorem shift14_fn (l : List Int) (c : Int) (hn0 : l.length ≤ 6) (hb : ∀ z ∈ l, z.natAbs ≤ 100) (hc : 0 ≤ c ∧ c ≤ 128) :
    Fn Try.prog 176 [.d (.lst l.length (i64s l)), .d (.int .i64 c)] [] (.d (.lst (comp (polL l) (X + C c)).sz (i64s (cs (comp (polL l) (X + C c)))))) [] := by
  refine fn0 (nt := 61) (res := [.tmp 4]) Try.func176 rfl (by decide) rfl rfl rfl rfl ?_
  intro Cx hP hnt hl
  have hpl := hn_poly l c
  obtain ⟨F, hF⟩ : ∃ F : Nat → Int, F = fun k => l.getD k 0 := ⟨_, rfl⟩
  obtain ⟨L, hL⟩ : ∃ L, L = l.length := ⟨_, rfl⟩
  rw [← hF, ← hL] at hpl
  rw [← hL] at hn0 ⊢
  have hFb : ∀ k, (F k).natAbs ≤ 100 := fun k => by
    rw [hF]; simp only; rw [List.getD_eq_getElem?_getD]
    cases e : l[k]? with
    | none => simp
    | some z => exact hb z (List.mem_of_getElem? e)
  have habs := hn_abs (L := L) (c := c) hFb (by omega)
  have h13 : ∀ k, k ≤ L → hS k ≤ 10 ^ 13 := fun k hk => hS_le6 k (by omega)
  have ht := trim11_fn (tb (hn F L c L) L) (by simp; omega)
  rw [hpl, tb_len] at ht
  refine awp_sx prog_ok hP hnt [] [] [] [0, 1] (by kernel_rfl) (G := fun K => K (St.mk [(0, V.d (D.lst L (i64s l))), (1, V.d (D.int IntKind.i64 c))] [] 1)) (fun K => by kernel_rfl) ?_
  refine awp_sx prog_ok hP hnt [] [] [] [0, 1, 5] (by kernel_rfl) (G := fun K => K (St.mk [(0, V.d (D.lst L (i64s l))), (1, V.d (D.int IntKind.i64 c)), (5, V.nil)] [] 2)) (fun K => by kernel_rfl) ?_
  refine awp_cut (ι := Unit) (fun _ => ⟨[(5, .own 0 0 L 1)], [(0, some ⟨i64s (tb (hn F L c L) L), true⟩)], 1⟩) (fun _ => True) ?_ ?_
  · refine awp_sx prog_ok hP hnt [(11, .int .i64 ((L : Int) - 1))] [] [] [0, 1, 5, 6] (by kernel_rfl) (G := fun K => IntKind.i64.wrap ((↑L : Int) - (1 : Int)) = (↑L : Int) - (1 : Int) ∧ K (St.mk [(0, V.d (D.lst L (i64s l))), (1, V.d (D.int IntKind.i64 c)), (5, V.nil), (6, V.d (D.int IntKind.i64 ((↑L : Int) - (1 : Int))))] [] 6)) (fun K => by kernel_rfl) ?_
    refine ⟨by rw [w64] <;> omega, ?_⟩
    refine awp_block ?_
    refine awp_loop (ι := Nat) (fun k => ⟨[(0, .d (.lst L (i64s l))), (1, .d (.int .i64 c)), (5, .own 0 0 k 1), (6, .d (.int .i64 ((L : Int) - 1 - k)))], [(0, some ⟨i64s (tb (hn F L c k) k), true⟩)], 1⟩)
      (fun k => k ≤ L) (fun k => L - k) 0 [] (by omega) ?_ ?_
    · (constructor <;> simp [hl, envOk, memOk, conv, St.get, St.blk, tb, i64s])
    intro k hk
    refine awp_seq_k fun K1 hK1 => ?_
    refine awp_sx prog_ok hP hnt [] [] [] [0, 1, 5, 6, 13] (by kernel_rfl) (G := fun K => K (St.mk [(0, V.d (D.lst L (i64s l))), (1, V.d (D.int IntKind.i64 c)), (5, V.own 0 0 k 1), (6, V.d (D.int IntKind.i64 ((↑L : Int) - (1 : Int) - (↑k : Int)))), (13, V.d (D.bool (decide ((↑L : Int) - (1 : Int) - (↑k : Int) ≥ (0 : Int)))))] [(0, some (Blk.mk (i64s (tb (hn F L c k) k)) true))] 3)) (fun K => by kernel_rfl) ?_
    refine awp_cond rfl (fun e => awp_skip (hK1 _ ?_)) (fun e => awp_exit ⟨(), [(0, 0)], trivial, ?_⟩)
    · simp at e
      refine awp_seq_k fun K2 hK2 => ?_
      refine awp_block ?_
      refine awp_sx prog_ok hP hnt [(18, .int .i64 (k + 1 : Nat))] [] [] [0, 1, 5, 6, 7] (by kernel_rfl) (G := fun K => IntKind.i64.wrap ((↑k : Int) + (1 : Int)) = (↑(k + 1) : Int) ∧ ((↑(k + 1) : Int) = (↑(k + 1) : Int) ∧ (0 : Int) ≤ (↑(k + 1) : Int) ∧ (↑(k + 1) : Int) * (↑8 : Int) ≤ (2 : Int) ^ 47) ∧ K (St.mk [(0, V.d (D.lst L (i64s l))), (1, V.d (D.int IntKind.i64 c)), (5, V.own 0 0 k 1), (6, V.d (D.int IntKind.i64 ((↑L : Int) - (1 : Int) - (↑k : Int)))), (7, V.own 6 0 (↑(k + 1) : Int).toNat 1)] [(0, some (Blk.mk (i64s (tb (hn F L c k) k)) true)), (6, some (Blk.mk (zeros (↑(k + 1) : Int).toNat (TI.mk (Kind.int IntKind.i64) 1 8 [D.int IntKind.i64 (0 : Int)]).zero) true))] 8)) (fun K => by kernel_rfl) ?_
      refine ⟨by rw [w64] <;> omega, ⟨rfl, by omega, by omega⟩, ?_⟩
      obtain ⟨o, ho⟩ : ∃ o, o = hn F L c k := ⟨_, rfl⟩
      have hov : ∀ i, k ≤ i → o i = 0 := fun i hi => by rw [ho]; exact hn_van k i hi
      have hoa : ∀ i, (o i).natAbs ≤ hS k := fun i => by rw [ho]; exact habs k i
      have hk13 := h13 k hk
      rw [← ho]
      refine awp_cut (ι := Unit) (fun _ => ⟨[(0, .d (.lst L (i64s l))), (1, .d (.int .i64 c)), (6, .d (.int .i64 ((L : Int) - 1 - k))), (7, .own 1 0 (k + 1) 1)], [(1, some ⟨i64s (tb (nx o c k) (k + 1)), true⟩)], 2⟩) (fun _ => True) ?_ ?_
      · refine awp_sx prog_ok hP hnt [] [] [] [0, 1, 5, 6, 7, 8] (by kernel_rfl) (G := fun K => K (St.mk [(0, V.d (D.lst L (i64s l))), (1, V.d (D.int IntKind.i64 c)), (5, V.own 0 0 k 1), (6, V.d (D.int IntKind.i64 ((↑L : Int) - (1 : Int) - (↑k : Int)))), (7, V.own 6 0 (↑(k + 1) : Int).toNat 1), (8, V.d (D.int IntKind.i64 (0 : Int)))] [(0, some (Blk.mk (i64s (tb o k)) true)), (6, some (Blk.mk (zeros (↑(k + 1) : Int).toNat (TI.mk (Kind.int IntKind.i64) 1 8 [D.int IntKind.i64 (0 : Int)]).zero) true))] 9)) (fun K => by kernel_rfl) ?_
        refine awp_block ?_
        refine awp_loop (ι := Nat) (fun j => ⟨[(0, .d (.lst L (i64s l))), (1, .d (.int .i64 c)), (5, .own 0 0 k 1), (6, .d (.int .i64 ((L : Int) - 1 - k))), (7, .own 1 0 (k + 1) 1), (8, .d (.int .i64 j))], [(0, some ⟨i64s (tb o k), true⟩), (1, some ⟨i64s (tb (nx o c j) (k + 1)), true⟩)], 2⟩)
          (fun j => j ≤ k) (fun j => k - j) 0 [(0, 0), (1, 6)] (by omega) ?_ ?_
        · have : tb (nx o c 0) (k + 1) = List.replicate (k + 1) 0 := by
            rw [tb_const]
            exact tb_ext fun i hi => by unfold nx; rw [if_neg (by omega), if_neg (by omega)]
          rw [this, Int.toNat_natCast]
          have h0 : ∀ n, zeros n [D.int .i64 0] = i64s (List.replicate n 0) := fun n => by simp [zeros, i64s]
          simp only [h0]
          (constructor <;> simp [hl, envOk, memOk, conv, St.get, St.blk])
        intro j hj
        refine awp_seq_k fun K3 hK3 => ?_
        refine awp_sx prog_ok hP hnt [] [] [] [0, 1, 5, 6, 7, 8, 23] (by kernel_rfl) (G := fun K => K (St.mk [(0, V.d (D.lst L (i64s l))), (1, V.d (D.int IntKind.i64 c)), (5, V.own 0 0 k 1), (6, V.d (D.int IntKind.i64 ((↑L : Int) - (1 : Int) - (↑k : Int)))), (7, V.own 1 0 (k + 1) 1), (8, V.d (D.int IntKind.i64 (↑j : Int))), (23, V.d (D.bool (decide ((↑j : Int) < (↑k : Int)))))] [(0, some (Blk.mk (i64s (tb o k)) true)), (1, some (Blk.mk (i64s (tb (nx o c j) (k + 1))) true))] 6)) (fun K => by kernel_rfl) ?_
        refine awp_cond rfl (fun e2 => awp_skip (hK3 _ ?_)) (fun e2 => awp_exit ⟨(), [(1, 1)], trivial, ?_⟩)
        · simp at e2
          have gj : (i64s (tb (nx o c j) (k + 1)))[0 + ((j + 1 : Nat) : Int).toNat * 1]? = some (D.int .i64 0) := by
            rw [Int.toNat_natCast, Nat.zero_add, Nat.mul_one, i64s_get, tb_get (by omega)]
            unfold nx; rw [if_neg (by omega), if_neg (by omega)]; rfl
          have go : (i64s (tb o k))[0 + (j : Int).toNat * 1]? = some (D.int .i64 (o j)) := by
            rw [Int.toNat_natCast, Nat.zero_add, Nat.mul_one, i64s_get, tb_get e2]; rfl
          have ha1 := hoa j
          refine awp_seq_k fun K4 hK4 => ?_
          refine awp_block ?_
          refine awp_sx prog_ok hP hnt [(28, .int .i64 (j + 1 : Nat)), (35, .int .i64 (o j))] [] [some [.int .i64 0], some [.int .i64 (o j)]] [0, 1, 5, 6, 7, 8] (by kernel_rfl) (G := fun K => IntKind.i64.wrap ((↑j : Int) + (1 : Int)) = (↑(j + 1) : Int) ∧ ((0 : Int) ≤ (↑(j + 1) : Int) ∧ (↑(j + 1) : Int) < (↑(k + 1) : Int)) ∧ (i64s (tb (nx o c j) (k + 1)))[0 + (↑(j + 1) : Int).toNat * 1]? = some (D.int IntKind.i64 (0 : Int)) ∧ ((0 : Int) ≤ (↑j : Int) ∧ (↑j : Int) < (↑k : Int)) ∧ (i64s (tb o k))[0 + (↑j : Int).toNat * 1]? = some (D.int IntKind.i64 (o j)) ∧ IntKind.i64.wrap ((0 : Int) + o j) = o j ∧ ((0 : Int) ≤ (↑(j + 1) : Int) ∧ (↑(j + 1) : Int) < (↑(k + 1) : Int)) ∧ 0 + (↑(j + 1) : Int).toNat * 1 + [D.int IntKind.i64 (o j)].length ≤ (i64s (tb (nx o c j) (k + 1))).length ∧ K (St.mk [(0, V.d (D.lst L (i64s l))), (1, V.d (D.int IntKind.i64 c)), (5, V.own 0 0 k 1), (6, V.d (D.int IntKind.i64 ((↑L : Int) - (1 : Int) - (↑k : Int)))), (7, V.own 1 0 (k + 1) 1), (8, V.d (D.int IntKind.i64 (↑j : Int)))] [(0, some (Blk.mk (i64s (tb o k)) true)), (1, some (Blk.mk (setCells (i64s (tb (nx o c j) (k + 1))) (0 + (↑(j + 1) : Int).toNat * 1) [D.int IntKind.i64 (o j)]) true))] 18)) (fun K => by kernel_rfl) ?_
          have hset1 : (tb (nx o c j) (k + 1)).set (j + 1) (o j) = tb (fun i => if i = j + 1 then o j else nx o c j i) (k + 1) := tb_set (by rw [if_pos rfl]) fun i hi _ => by rw [if_neg hi]
          have hset2 : (tb (fun i => if i = j + 1 then o j else nx o c j i) (k + 1)).set j (nx o c j j + c * o j) = tb (nx o c (j + 1)) (k + 1) := tb_set (by
            by_cases hj0 : j = 0
            · subst hj0; simp [nx]
            · simp [nx, hj0]) fun i hi hik => by
            by_cases h1 : i = j + 1
            · subst h1; simp [nx]
            · by_cases h2 : i < j
              · simp [nx, h1, h2, show i < j + 1 by omega]
              · simp [nx, h1, h2, show ¬ i < j + 1 by omega, hi]
          have gj2 : (i64s (tb (fun i => if i = j + 1 then o j else nx o c j i) (k + 1)))[0 + (j : Int).toNat * 1]? = some (D.int .i64 (nx o c j j)) := by
            rw [Int.toNat_natCast, Nat.zero_add, Nat.mul_one, i64s_get, tb_get (by omega), if_neg (by omega)]; rfl
          have hnj : (nx o c j j).natAbs ≤ hS k := by
            unfold nx
            rw [if_neg (by omega)]
            split
            · exact hoa _
            · simp
          have hco : (c * o j).natAbs ≤ 128 * hS k := by rw [Int.natAbs_mul]; exact Nat.mul_le_mul (by omega) ha1
          have hsc : ∀ (q : List Int) (i : Nat) (z : Int), setCells (i64s q) i [.int .i64 z] = i64s (q.set i z) := fun q i z => by
            show (i64s q).set i (.int .i64 z) = _
            simp [i64s, List.map_set]
          refine ⟨by rw [w64] <;> omega, ⟨by omega, by omega⟩, gj, ⟨by omega, by omega⟩, go, by rw [w64] <;> omega, ⟨by omega, by omega⟩, by simp; omega, ?_⟩
          rw [Int.toNat_natCast, Nat.zero_add, Nat.mul_one, hsc, hset1]
          refine awp_x prog_ok hP hnt [(46, .int .i64 (c * o j)), (47, .int .i64 (nx o c j j + c * o j))] [] [some [.int .i64 (nx o c j j)], some [.int .i64 (o j)]] [0, 1, 5, 6, 7, 8] (by kernel_rfl) (G := fun K => ((0 : Int) ≤ (↑j : Int) ∧ (↑j : Int) < (↑(k + 1) : Int)) ∧ (i64s (tb (fun i => if i = j + 1 then o j else nx o c j i) (k + 1)))[0 + (↑j : Int).toNat * 1]? = some (D.int IntKind.i64 (nx o c j j)) ∧ ((0 : Int) ≤ (↑j : Int) ∧ (↑j : Int) < (↑k : Int)) ∧ (i64s (tb o k))[0 + (↑j : Int).toNat * 1]? = some (D.int IntKind.i64 (o j)) ∧ IntKind.i64.wrap (c * o j) = c * o j ∧ IntKind.i64.wrap (nx o c j j + c * o j) = nx o c j j + c * o j ∧ ((0 : Int) ≤ (↑j : Int) ∧ (↑j : Int) < (↑(k + 1) : Int)) ∧ 0 + (↑j : Int).toNat * 1 + [D.int IntKind.i64 (nx o c j j + c * o j)].length ≤ (i64s (tb (fun i => if i = j + 1 then o j else nx o c j i) (k + 1))).length ∧ K (St.mk [(0, V.d (D.lst L (i64s l))), (1, V.d (D.int IntKind.i64 c)), (5, V.own 0 0 k 1), (6, V.d (D.int IntKind.i64 ((↑L : Int) - (1 : Int) - (↑k : Int)))), (7, V.own 1 0 (k + 1) 1), (8, V.d (D.int IntKind.i64 (↑j : Int)))] [(0, some (Blk.mk (i64s (tb o k)) true)), (1, some (Blk.mk (setCells (i64s (tb (fun i => if i = j + 1 then o j else nx o c j i) (k + 1))) (0 + (↑j : Int).toNat * 1) [D.int IntKind.i64 (nx o c j j + c * o j)]) true))] 31)) (fun K => by kernel_rfl) ?_
          refine ⟨⟨by omega, by omega⟩, gj2, ⟨by omega, by omega⟩, go, by rw [w64] <;> omega, by rw [w64] <;> omega, ⟨by omega, by omega⟩, by simp; omega, hK4 _ ?_⟩
          rw [Int.toNat_natCast, Nat.zero_add, Nat.mul_one, hsc, hset2]
          refine awp_x prog_ok hP hnt [(25, .int .i64 (j + 1 : Nat))] [] [] [0, 1, 5, 6, 7, 8] (by kernel_rfl) (G := fun K => IntKind.i64.wrap ((↑j : Int) + (1 : Int)) = (↑(j + 1) : Int) ∧ K (St.mk [(0, V.d (D.lst L (i64s l))), (1, V.d (D.int IntKind.i64 c)), (5, V.own 0 0 k 1), (6, V.d (D.int IntKind.i64 ((↑L : Int) - (1 : Int) - (↑k : Int)))), (7, V.own 1 0 (k + 1) 1), (8, V.d (D.int IntKind.i64 (↑(j + 1) : Int)))] [(0, some (Blk.mk (i64s (tb o k)) true)), (1, some (Blk.mk (i64s (tb (nx o c (j + 1)) (k + 1))) true))] 34)) (fun K => by kernel_rfl) ?_
          refine ⟨by rw [w64] <;> omega, j + 1, [(0, 0), (1, 1)], ⟨by omega, by omega⟩, ?_⟩
          (constructor <;> simp [hl, envOk, memOk, conv, St.get, St.blk])
        · simp at e2
          have : j = k := by omega
          subst this
          (constructor <;> simp [hl, envOk, memOk, conv, St.get, St.blk])
      intro _ _
      obtain ⟨z, hz⟩ := get_ex (l := l) (i := L - 1 - k) (by omega)
      have hzF : F (L - 1 - k) = z := by rw [hF]; simp only; rw [List.getD_eq_getElem?_getD, hz]; rfl
      have ez : (L : Int) - 1 - k = ((L - 1 - k : Nat) : Int) := by omega
      rw [ez]
      have hh : hn F L c (k + 1) 0 = nx o c k 0 + z := by
        unfold hn nx
        rw [if_pos rfl, hzF, ← ho]
        by_cases hk0 : k = 0
        · subst hk0
          rw [if_neg (by omega), if_neg (by omega), hov 0 (by omega)]; simp
        · rw [if_pos (by omega), if_pos rfl]; omega
      have gn : (i64s (tb (nx o c k) (k + 1)))[0 + Int.toNat 0 * 1]? = some (D.int .i64 (nx o c k 0)) := by
        rw [i64s_get]
        show ((tb (nx o c k) (k + 1))[0]?).map _ = _
        rw [tb_get (by omega)]; rfl
      have hab := habs (k + 1) 0
      have h13' := h13 (k + 1) (by omega)
      have hzb := hFb (L - 1 - k)
      rw [hzF] at hzb
      have hset : (tb (nx o c k) (k + 1)).set 0 (hn F L c (k + 1) 0) = tb (hn F L c (k + 1)) (k + 1) := tb_set rfl fun i hi hik => by
        have hh2 : hn F L c (k + 1) i = o (i - 1) + c * o i := by rw [hn, if_neg hi, ← ho]
        rw [hh2]
        by_cases hik2 : i < k
        · simp [nx, hik2, hi]
        · have : i = k := by omega
          subst this
          simp [nx, hi, hov i (Nat.le_refl _)]
      refine awp_sx prog_ok hP hnt [(56, .int .i64 (hn F L c (k + 1) 0))] [] [some [.int .i64 (nx o c k 0)], some [.int .i64 z]] [0, 1, 6, 7] (by kernel_rfl) (G := fun K => ((0 : Int) ≤ (0 : Int) ∧ (0 : Int) < (↑(k + 1) : Int)) ∧ (i64s (tb (nx o c k) (k + 1)))[0]? = some (D.int IntKind.i64 (nx o c k 0)) ∧ ((0 : Int) ≤ (↑(L - 1 - k) : Int) ∧ (↑(L - 1 - k) : Int) < (↑L : Int) ∧ ((↑(L - 1 - k) : Int).toNat + 1) * 1 ≤ (i64s l).length) ∧ (List.drop ((↑(L - 1 - k) : Int).toNat * 1) (i64s l))[0]? = some (D.int IntKind.i64 z) ∧ IntKind.i64.wrap (nx o c k 0 + z) = hn F L c (k + 1) 0 ∧ ((0 : Int) ≤ (0 : Int) ∧ (0 : Int) < (↑(k + 1) : Int)) ∧ 0 + [D.int IntKind.i64 (hn F L c (k + 1) 0)].length ≤ (i64s (tb (nx o c k) (k + 1))).length ∧ K (St.mk [(0, V.d (D.lst L (i64s l))), (1, V.d (D.int IntKind.i64 c)), (6, V.d (D.int IntKind.i64 (↑(L - 1 - k) : Int))), (7, V.own 1 0 (k + 1) 1)] [(1, some (Blk.mk (setCells (i64s (tb (nx o c k) (k + 1))) 0 [D.int IntKind.i64 (hn F L c (k + 1) 0)]) true))] 12)) (fun K => by kernel_rfl) ?_
      have hsc : ∀ (q : List Int) (i : Nat) (z : Int), setCells (i64s q) i [.int .i64 z] = i64s (q.set i z) := fun q i z => by
        show (i64s q).set i (.int .i64 z) = _
        simp [i64s, List.map_set]
      refine ⟨⟨by omega, by omega⟩, gn, ⟨by omega, by omega, by simp; omega⟩, i64s_at hz, by rw [hh, w64] <;> omega, ⟨by omega, by omega⟩, by simp, ?_⟩
      rw [hsc, hset]
      refine awp_x prog_ok hP hnt [] [] [] [0, 1, 5, 6] (by kernel_rfl) (G := fun K => K (St.mk [(0, V.d (D.lst L (i64s l))), (1, V.d (D.int IntKind.i64 c)), (6, V.d (D.int IntKind.i64 (↑(L - 1 - k) : Int))), (5, V.own 1 0 (k + 1) 1)] [(1, some (Blk.mk (i64s (tb (hn F L c (k + 1)) (k + 1))) true))] 14)) (fun K => by kernel_rfl) ?_
      refine hK2 _ ?_
      refine awp_x prog_ok hP hnt [(15, .int .i64 ((L : Int) - 1 - (k + 1 : Nat)))] [] [] [0, 1, 5, 6] (by kernel_rfl) (G := fun K => IntKind.i64.wrap ((↑(L - 1 - k) : Int) - (1 : Int)) = (↑L : Int) - (1 : Int) - (↑(k + 1) : Int) ∧ K (St.mk [(0, V.d (D.lst L (i64s l))), (1, V.d (D.int IntKind.i64 c)), (6, V.d (D.int IntKind.i64 ((↑L : Int) - (1 : Int) - (↑(k + 1) : Int)))), (5, V.own 1 0 (k + 1) 1)] [(1, some (Blk.mk (i64s (tb (hn F L c (k + 1)) (k + 1))) true))] 17)) (fun K => by kernel_rfl) ?_
      refine ⟨by rw [w64] <;> omega, k + 1, [(0, 1)], ⟨by omega, by omega⟩, ?_⟩
      (constructor <;> simp [hl, envOk, memOk, conv, St.get, St.blk])
    · simp at e
      have : k = L := by omega
      subst this
      (constructor <;> simp [hl, envOk, memOk, conv, St.get, St.blk])
  intro _ _
  refine awp_sx prog_ok hP hnt [] [.val (.d (.lst (comp (polL l) (X + C c)).sz (i64s (cs (comp (polL l) (X + C c))))))] [] [4] (by kernel_rfl) (G := fun K => Fn Try.prog 175 [V.d (D.lst L (List.take (L * 1) (List.drop 0 (i64s (tb (hn F L c L) L)))))] [] (V.d (D.lst (comp (polL l) (X + C c)).sz (i64s (cs (comp (polL l) (X + C c)))))) [] ∧ K (St.mk [(4, V.d (D.lst (comp (polL l) (X + C c)).sz (i64s (cs (comp (polL l) (X + C c))))))] [(0, some (Blk.mk (i64s (tb (hn F L c L) L)) false))] 4)) (fun K => by kernel_rfl) ?_
  rw [List.drop_zero, Nat.mul_one, List.take_of_length_le (by simp)]
  exact ⟨ht, awp_ret ⟨.inl rfl, retD rfl⟩⟩
end Go.Abs

set_option linter.unusedVariables false
set_option linter.unusedSimpArgs false
namespace Go.Abs
open Go Go.Proofs Poly
set_option maxRecDepth 100000

theorem least {P : Nat → Prop} : ∀ n, P n → ∃ r, r ≤ n ∧ P r ∧ ∀ i, i < r → ¬ P i := by
  intro n
  induction n using Nat.strongRecOn with
  | _ n ih =>
    intro h
    by_cases h0 : ∃ m, m < n ∧ P m
    · obtain ⟨m, hm, hp⟩ := h0
      obtain ⟨r, h1, h2, h3⟩ := ih m hm hp
      exact ⟨r, by omega, h2, h3⟩
    · exact ⟨n, Nat.le_refl _, h, fun i hi hp => h0 ⟨i, hi, hp⟩⟩

theorem vr_same {F : Nat → Int} {σ : Int} (hσ : σ = 1 ∨ σ = -1) (h : ∀ i, 0 ≤ σ * F i) : ∀ k, (vr F k).1 = 0 ∧ 0 ≤ σ * (vr F k).2
  | 0 => by simp [vr]
  | k + 1 => by
    obtain ⟨h1, h2⟩ := vr_same hσ h k
    have hk := h k
    unfold vr
    by_cases h0 : F k = 0
    · rw [if_pos h0]; exact ⟨h1, h2⟩
    · rw [if_neg h0]
      refine ⟨?_, hk⟩
      simp only
      rw [if_neg]
      · exact h1
      · rintro ⟨a, b⟩
        apply b
        rcases hσ with rfl | rfl
        · rw [Int.sign_eq_one_of_pos (by omega), Int.sign_eq_one_of_pos (by omega)]
        · rw [Int.sign_eq_neg_one_of_neg (by omega), Int.sign_eq_neg_one_of_neg (by omega)]

theorem hn_pos {F : Nat → Int} {L : Nat} {c σ : Int} (hσ : σ = 1 ∨ σ = -1) (hF : ∀ k, (F k).natAbs ≤ 100) (hc : 101 ≤ c) (hL : 0 < σ * F (L - 1)) : ∀ k, (∀ i, 0 ≤ σ * hn F L c (k + 1) i) ∧ 1 ≤ σ * hn F L c (k + 1) 0
  | 0 => by
    refine ⟨fun i => ?_, ?_⟩
    · simp only [hn]
      split
      · simp; omega
      · simp
    · simp only [hn]; simp; omega
  | k + 1 => by
    obtain ⟨h1, h2⟩ := hn_pos hσ hF hc hL k
    have h3 : ∀ i, 0 ≤ c * (σ * hn F L c (k + 1) i) := fun i => Int.mul_nonneg (by omega) (h1 i)
    have e : ∀ i, σ * hn F L c (k + 1 + 1) i = σ * (if i = 0 then F (L - 1 - (k + 1)) else hn F L c (k + 1) (i - 1)) + c * (σ * hn F L c (k + 1) i) := fun i => by
      rw [hn]; grind
    have hb := hF (L - 1 - (k + 1))
    have hz : 1 ≤ σ * hn F L c (k + 1 + 1) 0 := by
      rw [e, if_pos rfl]
      have h4 : 101 * (σ * hn F L c (k + 1) 0) ≤ c * (σ * hn F L c (k + 1) 0) := Int.mul_le_mul_of_nonneg_right hc (by omega)
      rcases hσ with rfl | rfl <;> omega
    refine ⟨fun i => ?_, hz⟩
    by_cases h0 : i = 0
    · subst h0; omega
    · rw [e, if_neg h0]
      have := h1 (i - 1)
      have := h3 i
      omega

theorem vars_far {l : List Int} {c : Int} (hb : ∀ z ∈ l, z.natAbs ≤ 100) (hc : 101 ≤ c) : vars (comp (polL l) (X + C c)) = 0 := by
  obtain ⟨f, hf⟩ : ∃ f, f = polL l := ⟨_, rfl⟩
  have hfl : polL (cs f) = f := by
    refine ext_ev fun y _ => ?_
    rw [ev_cs]
  have hcb : ∀ k, (f.c k).natAbs ≤ 100 := fun k => by
    rw [hf, polL_c, List.getD_eq_getElem?_getD]
    cases e : l[k]? with
    | none => simp
    | some z => exact hb z (List.mem_of_getElem? e)
  rw [← hf]
  rcases Nat.eq_zero_or_pos f.sz with h0 | h0
  · have hz : f = 0 := eq_zero.2 h0
    have : comp f (X + C c) = 0 := ext_ev fun y _ => by rw [ev_comp, hz]; simp
    rw [this]
    unfold vars
    rw [show (0 : Poly).sz = 0 from eq_zero.1 rfl]; rfl
  have hlc : f.lc ≠ 0 := lc_ne (fun h => by have := eq_zero.1 h; omega)
  have hp := hn_poly (cs f) c
  rw [hfl, cs_len] at hp
  obtain ⟨F, hF⟩ : ∃ F : Nat → Int, F = fun k => (cs f).getD k 0 := ⟨_, rfl⟩
  rw [← hF] at hp
  have hFc : ∀ k, F k = f.c k := fun k => by rw [hF]; exact cs_getD f k
  obtain ⟨σ, hσ, hs⟩ : ∃ σ : Int, (σ = 1 ∨ σ = -1) ∧ 0 < σ * F (f.sz - 1) := by
    rw [hFc]
    rcases Int.lt_or_gt_of_ne hlc with h | h
    · exact ⟨-1, .inr rfl, by unfold lc at h; omega⟩
    · exact ⟨1, .inl rfl, by unfold lc at h; omega⟩
  obtain ⟨n, hn0⟩ : ∃ n, f.sz = n + 1 := ⟨f.sz - 1, by omega⟩
  have hpos := (hn_pos (L := f.sz) hσ (fun k => by rw [hFc]; exact hcb k) hc hs n).1
  rw [← hp, vars_polL]
  refine (vr_same hσ (fun i => ?_) _).1
  rw [List.getD_eq_getElem?_getD]
  by_cases hi : i < f.sz
  · rw [tb_get hi, hn0]; rw [hn0] at hpos; exact hpos i
  · rw [List.getElem?_eq_none (by simp; omega)]; simp

theorem Bd.lv0 {n K : Nat} {f : Poly} (h : Bd n K f) (hn : n ≤ 100) (hK : K ≤ 1280) : W 0 (cp f) :=
  Lv.w ⟨Nat.le_trans h.len (by omega), fun k => Nat.lt_of_lt_of_le (h.ok k) (pow32 (by omega))⟩

theorem laguerreP {f : Poly} (hb : Bd 6 7 f) {r : Nat} (hsz : 2 ≤ f.sz) (hr7 : r ≤ 7) (h0 : vars (comp f (X + C (2 ^ r))) = 0) (hlt : ∀ i, i < r → vars (comp f (X + C (2 ^ i))) ≠ 0) :
    Fn Try.prog 87 [.d (rp (cp f))] [] (.d (.int .i64 r)) [] := by
  refine fn0 (nt := 21) (res := [.tmp 2]) Try.func87 rfl (by decide) rfl rfl rfl rfl ?_
  intro Cx hP hnt hl
  have hW : W 0 (cp f) := hb.lv0 (by omega) (by omega)
  have hdg := degP (by omega) hW
  rw [pol_cp] at hdg
  have hz1 := iOf_fn 1 (by decide) (by decide)
  have hfb := hb.len
  have hpw : ∀ k, k ≤ 7 → ((2 : Int) ^ k).natAbs ≤ 128 := by decide
  have hpok : Pok (2 ^ 39) (cp f) := pok_mono (by omega) hW.ok
  have hsh : ∀ k, k ≤ 7 → Fn Try.prog 53 [.d (rp (cp f)), .agg (iz (2 ^ k))] [] (.d (rp (cp (comp f (X + C (2 ^ k)))))) [] ∧ Fn Try.prog 78 [.d (rp (cp (comp f (X + C (2 ^ k)))))] [] (.d (.int .i64 (vars (comp f (X + C (2 ^ k))) : Nat))) [] := fun k hk => by
    have hk1 := hpw k hk
    obtain ⟨a1, a2⟩ := shiftP (n := 6) (K := 7) (L := 8) (ps := cp f) (s := decide ((2 : Int) ^ k < 0)) (l := dig ((2 : Int) ^ k).natAbs) (by simp; omega) hpok (by rw [pol_cp]; exact hb) (dig_lt _) (by have := dig_len (n := ((2 : Int) ^ k).natAbs) (k := 1) (by omega); omega) (by rw [ival_iz]; omega) (by omega) (by omega)
    rw [pol_cp, ival_iz] at a1 a2
    rw [← iz_ic] at a1
    have hW2 : W 0 (cp (comp f (X + C (2 ^ k)))) := a2.lv0 (by omega) (by omega)
    have := varsP (by omega) hW2
    rw [pol_cp] at this
    exact ⟨a1, this⟩
  have hadd : ∀ k, k ≤ 7 → Fn Try.prog 96 [.agg (iz (2 ^ k)), .agg (iz (2 ^ k))] [] (.agg (iz (2 ^ (k + 1)))) [] := fun k hk => by
    have hk1 := hpw k hk
    have := addI (x := 2 ^ k) (y := 2 ^ k) (K := 8) (L := 8) (by omega) (by omega) (by omega) (by omega)
    rwa [show (2 : Int) ^ k + 2 ^ k = 2 ^ (k + 1) by rw [Int.pow_succ]; omega] at this
  refine awp_sx prog_ok hP hnt [] [] [] [0] (by kernel_rfl) (G := fun K => K (St.mk [(0, V.d (rp (cp f)))] [] 1)) (fun K => by kernel_rfl) ?_
  refine awp_seq_k fun K hK => ?_
  refine awp_sx prog_ok hP hnt [] [.val (.d (.int .i64 ((f.sz : Int) - 1)))] [] [0, 7] (by kernel_rfl) (G := fun K => Fn Try.prog 68 [V.d (rp (cp f))] [] (V.d (D.int IntKind.i64 ((↑f.sz : Int) - (1 : Int)))) [] ∧ K (St.mk [(0, V.d (rp (cp f))), (7, V.d (D.bool (decide ((↑f.sz : Int) - (1 : Int) < (1 : Int)))))] [] 4)) (fun K => by kernel_rfl) ?_
  refine ⟨hdg, awp_cond rfl (fun e => by simp at e; omega) fun e => awp_skip (hK _ ?_)⟩
  refine awp_sx prog_ok hP hnt [] [] [] [0, 3] (by kernel_rfl) (G := fun K => K (St.mk [(0, V.d (rp (cp f))), (3, V.d (D.int IntKind.i64 (0 : Int)))] [] 5)) (fun K => by kernel_rfl) ?_
  refine awp_cut (ι := Unit) (fun _ => ⟨[(3, .d (.int .i64 r))], [], 0⟩) (fun _ => True) ?_ ?_
  · refine awp_sx prog_ok hP hnt [] [.val (.agg (iz 1))] [] [0, 3, 4] (by kernel_rfl) (G := fun K => Fn Try.prog 74 [V.d (D.int IntKind.i64 (1 : Int))] [] (V.agg [D.bool (decide ((1 : Int) < (0 : Int))), du (dig (Int.natAbs (1 : Int)))]) [] ∧ 2 ≤ (TI.mk (Kind.struct [(0, 1), (1, 1)]) 2 32 [D.bool false, D.lst 0 []]).zero.length ∧ K (St.mk [(0, V.d (rp (cp f))), (3, V.d (D.int IntKind.i64 (0 : Int))), (4, V.ptr 6 0)] [(6, some (Blk.mk [D.bool (decide ((1 : Int) < (0 : Int))), du (dig (Int.natAbs (1 : Int)))] true))] 8)) (fun K => by kernel_rfl) ?_
    refine ⟨hz1, by simp [iz], ?_⟩
    refine awp_block ?_
    refine awp_loop (ι := Nat) (fun k => ⟨[(0, .d (rp (cp f))), (3, .d (.int .i64 k)), (4, .ptr 0 0)], [(0, some ⟨iz (2 ^ k), true⟩)], 1⟩) (fun k => k ≤ r) (fun k => r - k) 0 [(0, 6)] (by omega) ?_ ?_
    · (constructor <;> simp [hl, envOk, memOk, conv, St.get, St.blk, iz])
    intro k hk
    obtain ⟨s1, s2⟩ := hsh k (by omega)
    refine awp_seq_k fun K1 hK1 => ?_
    refine awp_sx prog_ok hP hnt [] [.val (.d (rp (cp (comp f (X + C (2 ^ k)))))), .val (.d (.int .i64 (vars (comp f (X + C (2 ^ k))) : Nat)))] [some (iz (2 ^ k))] [0, 3, 4, 13] (by kernel_rfl) (G := fun K => ((iz ((2 : Int) ^ k))[0]? = some (D.bool (decide ((2 : Int) ^ k < (0 : Int)))) ∧ (iz ((2 : Int) ^ k))[1]? = some (du (dig ((2 : Int) ^ k).natAbs))) ∧ Fn Try.prog 53 [V.d (rp (cp f)), V.agg [D.bool (decide ((2 : Int) ^ k < (0 : Int))), du (dig ((2 : Int) ^ k).natAbs)]] [] (V.d (rp (cp (comp f (X + C ((2 : Int) ^ k)))))) [] ∧ Fn Try.prog 78 [V.d (rp (cp (comp f (X + C ((2 : Int) ^ k)))))] [] (V.d (D.int IntKind.i64 (↑(vars (comp f (X + C ((2 : Int) ^ k)))) : Int))) [] ∧ K (St.mk [(0, V.d (rp (cp f))), (3, V.d (D.int IntKind.i64 (↑k : Int))), (4, V.ptr 0 0), (13, V.d (D.bool (decide ((↑(vars (comp f (X + C ((2 : Int) ^ k)))) : Int) > (0 : Int)))))] [(0, some (Blk.mk [D.bool (decide ((2 : Int) ^ k < (0 : Int))), du (dig ((2 : Int) ^ k).natAbs)] true))] 6)) (fun K => by kernel_rfl) ?_
    refine ⟨⟨rfl, rfl⟩, s1, s2, awp_cond rfl (fun e => awp_skip (hK1 _ ?_)) (fun e => awp_exit ⟨(), [], trivial, ?_⟩)⟩
    · simp at e
      have hkr : k < r := by
        rcases Nat.lt_or_ge k r with h | h
        · exact h
        · exfalso
          have : k = r := by omega
          subst this
          omega
      refine awp_seq_k fun K2 hK2 => ?_
      refine awp_block ?_
      refine awp_x prog_ok hP hnt [(18, .int .i64 (k + 1 : Nat))] [] [] [0, 3, 4] (by kernel_rfl) (G := fun K => IntKind.i64.wrap ((↑k : Int) + (1 : Int)) = (↑(k + 1) : Int) ∧ K (St.mk [(0, V.d (rp (cp f))), (3, V.d (D.int IntKind.i64 (↑(k + 1) : Int))), (4, V.ptr 0 0)] [(0, some (Blk.mk [D.bool (decide ((2 : Int) ^ k < (0 : Int))), du (dig ((2 : Int) ^ k).natAbs)] true))] 9)) (fun K => by kernel_rfl) ?_
      refine ⟨by rw [w64] <;> omega, hK2 _ ?_⟩
      refine awp_seq_k fun K3 hK3 => ?_
      refine awp_sx prog_ok hP hnt [] [] [some (iz (2 ^ k))] [0, 3, 19] (by kernel_rfl) (G := fun K => ([D.bool (decide ((2 : Int) ^ k < (0 : Int))), du (dig ((2 : Int) ^ k).natAbs)][0]? = some (D.bool (decide ((2 : Int) ^ k < (0 : Int)))) ∧ [D.bool (decide ((2 : Int) ^ k < (0 : Int))), du (dig ((2 : Int) ^ k).natAbs)][1]? = some (du (dig ((2 : Int) ^ k).natAbs))) ∧ K (St.mk [(0, V.d (rp (cp f))), (3, V.d (D.int IntKind.i64 (↑(k + 1) : Int))), (19, V.agg [D.bool (decide ((2 : Int) ^ k < (0 : Int))), du (dig ((2 : Int) ^ k).natAbs)])] [(0, some (Blk.mk [D.bool (decide ((2 : Int) ^ k < (0 : Int))), du (dig ((2 : Int) ^ k).natAbs)] true))] 10)) (fun K => by kernel_rfl) ?_
      refine ⟨⟨rfl, rfl⟩, ?_⟩
      refine awp_x prog_ok hP hnt [] [] [] [0, 3, 4] (by kernel_rfl) (G := fun K => 0 + [D.bool (decide ((2 : Int) ^ k < (0 : Int))), du (dig ((2 : Int) ^ k).natAbs)].length ≤ (TI.mk (Kind.struct [(0, 1), (1, 1)]) 2 32 [D.bool false, D.lst 0 []]).zero.length ∧ K (St.mk [(0, V.d (rp (cp f))), (3, V.d (D.int IntKind.i64 (↑(k + 1) : Int))), (4, V.ptr 10 0)] [(0, some (Blk.mk [D.bool (decide ((2 : Int) ^ k < (0 : Int))), du (dig ((2 : Int) ^ k).natAbs)] true)), (10, some (Blk.mk [D.bool (decide ((2 : Int) ^ k < (0 : Int))), du (dig ((2 : Int) ^ k).natAbs)] true))] 12)) (fun K => by kernel_rfl) ?_
      refine ⟨by simp, hK3 _ ?_⟩
      refine awp_x prog_ok hP hnt [] [.val (.agg (iz (2 ^ (k + 1))))] [some (iz (2 ^ k)), some (iz (2 ^ k))] [0, 3, 4] (by kernel_rfl) (G := fun K => ([D.bool (decide ((2 : Int) ^ k < (0 : Int))), du (dig ((2 : Int) ^ k).natAbs)][0]? = some (D.bool (decide ((2 : Int) ^ k < (0 : Int)))) ∧ [D.bool (decide ((2 : Int) ^ k < (0 : Int))), du (dig ((2 : Int) ^ k).natAbs)][1]? = some (du (dig ((2 : Int) ^ k).natAbs))) ∧ ([D.bool (decide ((2 : Int) ^ k < (0 : Int))), du (dig ((2 : Int) ^ k).natAbs)][0]? = some (D.bool (decide ((2 : Int) ^ k < (0 : Int)))) ∧ [D.bool (decide ((2 : Int) ^ k < (0 : Int))), du (dig ((2 : Int) ^ k).natAbs)][1]? = some (du (dig ((2 : Int) ^ k).natAbs))) ∧ Fn Try.prog 96 [V.agg [D.bool (decide ((2 : Int) ^ k < (0 : Int))), du (dig ((2 : Int) ^ k).natAbs)], V.agg [D.bool (decide ((2 : Int) ^ k < (0 : Int))), du (dig ((2 : Int) ^ k).natAbs)]] [] (V.agg [D.bool (decide ((2 : Int) ^ (k + 1) < (0 : Int))), du (dig ((2 : Int) ^ (k + 1)).natAbs)]) [] ∧ 0 + (iz ((2 : Int) ^ (k + 1))).length ≤ [D.bool (decide ((2 : Int) ^ k < (0 : Int))), du (dig ((2 : Int) ^ k).natAbs)].length ∧ K (St.mk [(0, V.d (rp (cp f))), (3, V.d (D.int IntKind.i64 (↑(k + 1) : Int))), (4, V.ptr 10 0)] [(0, some (Blk.mk [D.bool (decide ((2 : Int) ^ k < (0 : Int))), du (dig ((2 : Int) ^ k).natAbs)] true)), (10, some (Blk.mk [D.bool (decide ((2 : Int) ^ (k + 1) < (0 : Int))), du (dig ((2 : Int) ^ (k + 1)).natAbs)] true))] 16)) (fun K => by kernel_rfl) ?_
      refine ⟨⟨rfl, rfl⟩, ⟨rfl, rfl⟩, hadd k (by omega), by simp [iz], k + 1, [(0, 10)], ⟨by omega, by omega⟩, ?_⟩
      (constructor <;> simp [hl, envOk, memOk, conv, St.get, St.blk, iz])
    · simp at e
      have hkr : k = r := by
        rcases Nat.lt_or_ge k r with h | h
        · exact absurd e (hlt k h)
        · omega
      subst hkr
      (constructor <;> simp [hl, envOk, memOk, conv, St.get, St.blk])
  intro _ _
  refine awp_sx prog_ok hP hnt [] [] [] [2] (by kernel_rfl) (G := fun K => K (St.mk [(2, V.d (D.int IntKind.i64 (↑r : Int)))] [] 2)) (fun K => by kernel_rfl) ?_
  exact awp_ret ⟨.inl rfl, retD rfl⟩

theorem laguerre0 {f : Poly} (hb : Bd 6 7 f) (hsz : f.sz < 2) : Fn Try.prog 87 [.d (rp (cp f))] [] (.d (.int .i64 (0 : Nat))) [] := by
  refine fn0 (nt := 21) (res := [.tmp 2]) Try.func87 rfl (by decide) rfl rfl rfl rfl ?_
  intro Cx hP hnt hl
  have hW : W 0 (cp f) := hb.lv0 (by omega) (by omega)
  have hdg := degP (by omega) hW
  rw [pol_cp] at hdg
  refine awp_sx prog_ok hP hnt [] [] [] [0] (by kernel_rfl) (G := fun K => K (St.mk [(0, V.d (rp (cp f)))] [] 1)) (fun K => by kernel_rfl) ?_
  refine awp_seq_k fun K hK => ?_
  refine awp_sx prog_ok hP hnt [] [.val (.d (.int .i64 ((f.sz : Int) - 1)))] [] [0, 7] (by kernel_rfl) (G := fun K => Fn Try.prog 68 [V.d (rp (cp f))] [] (V.d (D.int IntKind.i64 ((↑f.sz : Int) - (1 : Int)))) [] ∧ K (St.mk [(0, V.d (rp (cp f))), (7, V.d (D.bool (decide ((↑f.sz : Int) - (1 : Int) < (1 : Int)))))] [] 4)) (fun K => by kernel_rfl) ?_
  refine ⟨hdg, awp_cond rfl (fun e => ?_) fun e => by simp at e; omega⟩
  refine awp_sx prog_ok hP hnt [] [] [] [2] (by kernel_rfl) (G := fun K => K (St.mk [(2, V.d (D.int IntKind.i64 (0 : Int)))] [] 5)) (fun K => by kernel_rfl) ?_
  exact awp_ret ⟨.inl rfl, retD rfl⟩
theorem rlaguerre0 (l : List Int) (hn0 : l.length ≤ 6) (hsz : (polL l).sz < 2) : Fn Try.prog 88 [.d (.lst l.length (i64s l))] [] (.d (.int .i64 (0 : Nat))) [] := by
  refine fn0 (nt := 19) (res := [.tmp 2]) Try.func88 rfl (by decide) rfl rfl rfl rfl ?_
  intro Cx hP hnt hl
  have ht := trim11_fn l (by omega)
  refine awp_sx prog_ok hP hnt [] [] [] [0] (by kernel_rfl) (G := fun K => K (St.mk [(0, V.d (D.lst l.length (i64s l)))] [] 1)) (fun K => by kernel_rfl) ?_
  refine awp_seq_k fun K hK => ?_
  refine awp_sx prog_ok hP hnt [] [.val (.d (.lst (polL l).sz (i64s (cs (polL l)))))] [] [0, 8] (by kernel_rfl) (G := fun K => Fn Try.prog 175 [V.d (D.lst l.length (i64s l))] [] (V.d (D.lst (polL l).sz (i64s (cs (polL l))))) [] ∧ K (St.mk [(0, V.d (D.lst l.length (i64s l))), (8, V.d (D.bool (decide ((↑(polL l).sz : Int) < (2 : Int)))))] [] 5)) (fun K => by kernel_rfl) ?_
  refine ⟨ht, awp_cond rfl (fun e => ?_) fun e => by simp at e; omega⟩
  refine awp_sx prog_ok hP hnt [] [] [] [2] (by kernel_rfl) (G := fun K => K (St.mk [(2, V.d (D.int IntKind.i64 (0 : Int)))] [] 6)) (fun K => by kernel_rfl) ?_
  exact awp_ret ⟨.inl rfl, retD rfl⟩

/-- bounds of a shifted polynomial, in numbers of 64 bits -/
theorem shiftB {l : List Int} (hn0 : l.length ≤ 6) (hb : ∀ z ∈ l, z.natAbs ≤ 100) {c : Int} (hc : c.natAbs ≤ 128) : (∀ i, ((comp (polL l) (X + C c)).c i).natAbs ≤ 10 ^ 13) ∧ (comp (polL l) (X + C c)).sz ≤ 6 := by
  have hFb : ∀ k, ((fun k => l.getD k 0) k).natAbs ≤ 100 := fun k => by
    simp only; rw [List.getD_eq_getElem?_getD]
    cases e : l[k]? with
    | none => simp
    | some z => exact hb z (List.mem_of_getElem? e)
  rw [← hn_poly]
  refine ⟨fun i => ?_, Nat.le_trans (polL_sz _) (by simp; omega)⟩
  rw [polL_c, List.getD_eq_getElem?_getD]
  have h1 := hn_abs (L := l.length) hFb hc l.length i
  have h2 := hS_le6 l.length hn0
  by_cases hi : i < l.length
  · rw [tb_get hi]; exact Nat.le_trans h1 h2
  · rw [List.getElem?_eq_none (by simp; omega)]; simp

theorem rlaguerre_fn (l : List Int) (hn0 : l.length ≤ 6) (hb : ∀ z ∈ l, z.natAbs ≤ 100) {r : Nat} (hsz : 2 ≤ (polL l).sz) (hr7 : r ≤ 7) (h0 : vars (comp (polL l) (X + C (2 ^ r))) = 0) (hlt : ∀ i, i < r → vars (comp (polL l) (X + C (2 ^ i))) ≠ 0) :
    Fn Try.prog 88 [.d (.lst l.length (i64s l))] [] (.d (.int .i64 r)) [] := by
  refine fn0 (nt := 19) (res := [.tmp 2]) Try.func88 rfl (by decide) rfl rfl rfl rfl ?_
  intro Cx hP hnt hl
  have ht := trim11_fn l (by omega)
  have hpw : ∀ k, k ≤ 7 → (0 : Int) ≤ (2 : Int) ^ k ∧ (2 : Int) ^ k ≤ 128 := by decide
  have hsh : ∀ k, k ≤ 7 → Fn Try.prog 176 [.d (.lst l.length (i64s l)), .d (.int .i64 (2 ^ k))] [] (.d (.lst (comp (polL l) (X + C (2 ^ k))).sz (i64s (cs (comp (polL l) (X + C (2 ^ k))))))) [] := fun k hk => shift14_fn l (2 ^ k) hn0 hb (hpw k hk)
  have hcsl : ∀ g : Poly, polL (cs g) = g := fun g => ext_ev fun y _ => by rw [ev_cs]
  have hbd : Bd 6 7 (polL l) := by
    refine ⟨Nat.le_trans (polL_sz l) hn0, fun k => ?_⟩
    have : Bz 7 l := fun z hz => by have := hb z hz; omega
    exact this.getD k
  have hv : ∀ k, k ≤ 7 → Fn Try.prog 83 [.d (.lst (comp (polL l) (X + C (2 ^ k))).sz (i64s (cs (comp (polL l) (X + C (2 ^ k))))))] [] (.d (.int .i64 (vars (comp (polL l) (X + C (2 ^ k))) : Nat))) [] := fun k hk => by
    obtain ⟨a1, h6⟩ := shiftB hn0 hb (c := 2 ^ k) (by have := hpw k hk; omega)
    have hr := rvars_fn (cs (comp (polL l) (X + C (2 ^ k)))) (by simp; omega) (fun z hz => by
      obtain ⟨i, hi⟩ := List.mem_iff_getElem?.1 hz
      have hv := a1 i
      rw [← cs_getD, List.getD_eq_getElem?_getD, hi] at hv
      simp at hv
      omega)
    rw [cs_len, ← cs_len, ← vars_polL, hcsl, cs_len] at hr
    exact hr
  refine awp_sx prog_ok hP hnt [] [] [] [0] (by kernel_rfl) (G := fun K => K (St.mk [(0, V.d (D.lst l.length (i64s l)))] [] 1)) (fun K => by kernel_rfl) ?_
  refine awp_seq_k fun K hK => ?_
  refine awp_sx prog_ok hP hnt [] [.val (.d (.lst (polL l).sz (i64s (cs (polL l)))))] [] [0, 8] (by kernel_rfl) (G := fun K => Fn Try.prog 175 [V.d (D.lst l.length (i64s l))] [] (V.d (D.lst (polL l).sz (i64s (cs (polL l))))) [] ∧ K (St.mk [(0, V.d (D.lst l.length (i64s l))), (8, V.d (D.bool (decide ((↑(polL l).sz : Int) < (2 : Int)))))] [] 5)) (fun K => by kernel_rfl) ?_
  refine ⟨ht, awp_cond rfl (fun e => by simp at e; omega) fun e => awp_skip (hK _ ?_)⟩
  refine awp_sx prog_ok hP hnt [] [] [] [0, 3] (by kernel_rfl) (G := fun K => K (St.mk [(0, V.d (D.lst l.length (i64s l))), (3, V.d (D.int IntKind.i64 (0 : Int)))] [] 6)) (fun K => by kernel_rfl) ?_
  refine awp_cut (ι := Unit) (fun _ => ⟨[(3, .d (.int .i64 r))], [], 0⟩) (fun _ => True) ?_ ?_
  · refine awp_sx prog_ok hP hnt [] [] [] [0, 3, 4] (by kernel_rfl) (G := fun K => K (St.mk [(0, V.d (D.lst l.length (i64s l))), (3, V.d (D.int IntKind.i64 (0 : Int))), (4, V.d (D.int IntKind.i64 (1 : Int)))] [] 7)) (fun K => by kernel_rfl) ?_
    refine awp_block ?_
    refine awp_loop (ι := Nat) (fun k => ⟨[(0, .d (.lst l.length (i64s l))), (3, .d (.int .i64 k)), (4, .d (.int .i64 (2 ^ k)))], [], 0⟩) (fun k => k ≤ r) (fun k => r - k) 0 [] (by omega) ?_ ?_
    · (constructor <;> simp [hl, envOk, memOk, conv, St.get, St.blk])
    intro k hk
    refine awp_seq_k fun K1 hK1 => ?_
    refine awp_sx prog_ok hP hnt [] [.val (.d (.lst (comp (polL l) (X + C (2 ^ k))).sz (i64s (cs (comp (polL l) (X + C (2 ^ k))))))), .val (.d (.int .i64 (vars (comp (polL l) (X + C (2 ^ k))) : Nat)))] [] [0, 3, 4, 13] (by kernel_rfl) (G := fun K => Fn Try.prog 176 [V.d (D.lst l.length (i64s l)), V.d (D.int IntKind.i64 ((2 : Int) ^ k))] [] (V.d (D.lst (comp (polL l) (X + C ((2 : Int) ^ k))).sz (i64s (cs (comp (polL l) (X + C ((2 : Int) ^ k))))))) [] ∧ Fn Try.prog 83 [V.d (D.lst (comp (polL l) (X + C ((2 : Int) ^ k))).sz (i64s (cs (comp (polL l) (X + C ((2 : Int) ^ k))))))] [] (V.d (D.int IntKind.i64 (↑(vars (comp (polL l) (X + C ((2 : Int) ^ k)))) : Int))) [] ∧ K (St.mk [(0, V.d (D.lst l.length (i64s l))), (3, V.d (D.int IntKind.i64 (↑k : Int))), (4, V.d (D.int IntKind.i64 ((2 : Int) ^ k))), (13, V.d (D.bool (decide ((↑(vars (comp (polL l) (X + C ((2 : Int) ^ k)))) : Int) > (0 : Int)))))] [] 5)) (fun K => by kernel_rfl) ?_
    refine ⟨hsh k (by omega), hv k (by omega), awp_cond rfl (fun e => awp_skip (hK1 _ ?_)) (fun e => awp_exit ⟨(), [], trivial, ?_⟩)⟩
    · simp at e
      have hkr : k < r := by
        rcases Nat.lt_or_ge k r with h | h
        · exact h
        · exfalso
          have : k = r := by omega
          subst this
          omega
      have hp2 := hpw k (by omega)
      refine awp_seq_k fun K2 hK2 => ?_
      refine awp_block ?_
      refine awp_x prog_ok hP hnt [(17, .int .i64 (k + 1 : Nat))] [] [] [0, 3, 4] (by kernel_rfl) (G := fun K => IntKind.i64.wrap ((↑k : Int) + (1 : Int)) = (↑(k + 1) : Int) ∧ K (St.mk [(0, V.d (D.lst l.length (i64s l))), (3, V.d (D.int IntKind.i64 (↑(k + 1) : Int))), (4, V.d (D.int IntKind.i64 ((2 : Int) ^ k)))] [] 8)) (fun K => by kernel_rfl) ?_
      refine ⟨by rw [w64] <;> omega, hK2 _ ?_⟩
      refine awp_x prog_ok hP hnt [(15, .int .i64 (2 ^ (k + 1)))] [] [] [0, 3, 4] (by kernel_rfl) (G := fun K => IntKind.i64.wrap ((2 : Int) ^ k * (2 : Int)) = (2 : Int) ^ (k + 1) ∧ K (St.mk [(0, V.d (D.lst l.length (i64s l))), (3, V.d (D.int IntKind.i64 (↑(k + 1) : Int))), (4, V.d (D.int IntKind.i64 ((2 : Int) ^ (k + 1))))] [] 11)) (fun K => by kernel_rfl) ?_
      refine ⟨by rw [Int.pow_succ, w64] <;> omega, k + 1, [], ⟨by omega, by omega⟩, ?_⟩
      (constructor <;> simp [hl, envOk, memOk, conv, St.get, St.blk])
    · simp at e
      have hkr : k = r := by
        rcases Nat.lt_or_ge k r with h | h
        · exact absurd e (hlt k h)
        · omega
      subst hkr
      (constructor <;> simp [hl, envOk, memOk, conv, St.get, St.blk])
  intro _ _
  refine awp_sx prog_ok hP hnt [] [] [] [2] (by kernel_rfl) (G := fun K => K (St.mk [(2, V.d (D.int IntKind.i64 (↑r : Int)))] [] 2)) (fun K => by kernel_rfl) ?_
  exact awp_ret ⟨.inl rfl, retD rfl⟩

theorem laguerre_fn (a : List Int) (ha : ∀ n ∈ a, -32768 ≤ n ∧ n ≤ 32767) : Fn Try.prog 10 [.d (.lst a.length (i16s a))] [] (.d (.bool true)) [] := by
  have hw := wide_fn a 6 100 ha (by omega) (by omega)
  have hll := wideL_len 6 100 a
  have hla := wideL_abs (n := 6) (m := 100) (by omega) (l := a)
  obtain ⟨l, hl0⟩ : ∃ l, l = wideL 6 100 a := ⟨_, rfl⟩
  rw [← hl0] at hw hll hla
  have hlb : ∀ z ∈ l, z.natAbs ≤ 100 := fun z hz => by have := hla z hz; omega
  have h64 : In64 l := fun z hz => by have := hlb z hz; omega
  have hp := poly14_fn l (by omega) h64
  have hbd : Bd 6 7 (polL l) := by
    refine ⟨Nat.le_trans (polL_sz l) hll, fun k => ?_⟩
    have : Bz 7 l := fun z hz => by have := hlb z hz; omega
    exact this.getD k
  have key : ∃ r : Nat, Fn Try.prog 87 [.d (rp (cp (polL l)))] [] (.d (.int .i64 r)) [] ∧ Fn Try.prog 88 [.d (.lst l.length (i64s l))] [] (.d (.int .i64 r)) [] := by
    by_cases hsz : 2 ≤ (polL l).sz
    · obtain ⟨r, hr7, h0, hlt⟩ := least (P := fun k => vars (comp (polL l) (X + C (2 ^ k))) = 0) 7 (vars_far hlb (by decide))
      exact ⟨r, laguerreP hbd hsz hr7 h0 hlt, rlaguerre_fn l hll hlb hsz hr7 h0 hlt⟩
    · refine ⟨0, laguerre0 hbd (by omega), rlaguerre0 l hll (by omega)⟩
  obtain ⟨r, k1, k2⟩ := key
  refine fn0 (nt := 14) (res := [.tmp 2]) Try.func10 rfl (by decide) rfl rfl rfl rfl ?_
  intro Cx hP hnt hl
  refine awp_sx prog_ok hP hnt [] [] [] [0] (by kernel_rfl) (G := fun K => K (St.mk [(0, V.d (D.lst a.length (i16s a)))] [] 1)) (fun K => by kernel_rfl) ?_
  refine awp_seq_k fun K hK => ?_
  refine awp_sx prog_ok hP hnt [] [.val (.d (.bool true))] [] [0, 5] (by kernel_rfl) (G := fun K => Fn Try.prog 75 [] [] (V.d (D.bool true)) [] ∧ K (St.mk [(0, V.d (D.lst a.length (i16s a))), (5, V.d (D.bool !true))] [] 3)) (fun K => by kernel_rfl) ?_
  refine ⟨awake14_fn, awp_cond (b := false) rfl nofun fun _ => awp_skip (hK _ ?_)⟩
  refine awp_sx prog_ok hP hnt [] [.val (.d (.lst l.length (i64s l)))] [] [3] (by kernel_rfl) (G := fun K => Fn Try.prog 82 [V.d (D.lst a.length (i16s a)), V.d (D.int IntKind.i64 (6 : Int)), V.d (D.int IntKind.i64 (100 : Int))] [] (V.d (D.lst l.length (i64s l))) [] ∧ K (St.mk [(3, V.d (D.lst l.length (i64s l)))] [] 6)) (fun K => by kernel_rfl) ?_
  refine ⟨hw, ?_⟩
  refine awp_sx prog_ok hP hnt [(13, .bool true)] [.val (.d (rp (cp (polL l)))), .val (.d (.int .i64 r)), .val (.d (.int .i64 r))] [] [2] (by kernel_rfl) (G := fun K => Fn Try.prog 79 [V.d (D.lst l.length (i64s l))] [] (V.d (rp (cp (polL l)))) [] ∧ Fn Try.prog 87 [V.d (rp (cp (polL l)))] [] (V.d (D.int IntKind.i64 (↑r : Int))) [] ∧ Fn Try.prog 88 [V.d (D.lst l.length (i64s l))] [] (V.d (D.int IntKind.i64 (↑r : Int))) [] ∧ ((↑r : Int) == (↑r : Int)) = true ∧ K (St.mk [(2, V.d (D.bool true))] [] 13)) (fun K => by kernel_rfl) ?_
  exact ⟨hp, k1, k2, by simp, awp_ret ⟨.inl rfl, retD rfl⟩⟩
end Go.Abs
