import Derived.WalkKit
import Derived.Orders
import Derived.Below
import Derived.Laws.AppendOwn
import Derived.Calls
import Derived.OpenShut
import Derived.ChangeArms
import Derived.ChangeShapes
import Derived.WideShapes
import Derived.KernelRfl
import Derived.JoinedOf
import Derived.Scope
import Derived.ProofKit
import Derived.ShutString
import Derived.ChangeOld
import Derived.SizedLaws
import Derived.Test.YtmlaakadkjmmfaaProg
import Derived.Test.YtmlaakadkjmmfaaCauchyx0
import Derived.Test.YtmlaakadkjmmfaaCauchyx1
import Derived.Test.YtmlaakadkjmmfaaCauchyx2
import Derived.Test.YtmlaakadkjmmfaaCauchyx3
/- Texts that the proof of RootboundCauchy leans on: what is told of the functions it reaches. -/
set_option linter.unusedVariables false
set_option linter.unusedSimpArgs false
namespace Go.Abs
open Go Go.Proofs
set_option maxRecDepth 100000

theorem dzero_fn (s : Bool) (l : List Nat) (h : l.length ≤ 2 ^ 40) (hd : Dg l) : Fn Try.prog 234 [.agg (ic s l)] [] (.d (.bool (decide (val l = 0)))) [] := by
  refine fn0 (nt := 6) (res := [.tmp 2]) Try.func234 rfl (by decide) rfl rfl rfl rfl ?_
  intro Cx hP hnt hl
  have h1 := isZero_fn l (by omega) hd
  refine awp_sx prog_ok hP hnt [] [] [] [1] (by kernel_rfl) (G := fun K => K (St.mk [(1, V.ptr 0 0)] [(0, some (Blk.mk [D.bool s, du l] true))] 2)) (fun K => by kernel_rfl) ?_
  refine awp_sx prog_ok hP hnt [] [.val (.d (.bool (decide (val l = 0))))] [some [du l]] [2] (by kernel_rfl) (G := fun K => [D.bool s, du l][1]? = some (du l) ∧ Fn Try.prog 187 [V.d (du l)] [] (V.d (D.bool (decide (val l = 0)))) [] ∧ K (St.mk [(2, V.d (D.bool (decide (val l = 0))))] [(0, some (Blk.mk [D.bool s, du l] true))] 6)) (fun K => by kernel_rfl) ?_
  exact ⟨rfl, h1, awp_ret ⟨.inl rfl, retD rfl⟩⟩

/-- results: two variables of two cells and a plain one -/
theorem retCCT {T : Tab} {c1 c2 t b1 b2 u : Nat} {s : St} {cs1 cs2 : List D} {l1 l2 : Bool} {d : D} (h1 : s.get c1 = .ptr b1 0) (h2 : s.blk b1 = some ⟨cs1, l1⟩) (h3 : s.get c2 = .ptr b2 0) (h4 : s.blk b2 = some ⟨cs2, l2⟩) (h5 : s.get u = .d d)
    (ha : Tab.agg T t = true) (hs1 : T.size t = cs1.length) (hs2 : T.size t = cs2.length) : RetOk T [.cell c1 t, .cell c2 t, .tmp u] (.tup [.agg cs1, .agg cs2, .d d]) [] s := by
  unfold RetOk evalRes
  rw [h1]
  simp only [h2, ha, if_true, evalRes, h3, h4, h5]
  refine ⟨by omega, by omega, .inl ⟨?_, trivial⟩⟩
  rw [List.drop_zero, List.drop_zero, hs1, List.take_of_length_le (Nat.le_refl _), ← hs1, hs2, List.take_of_length_le (Nat.le_refl _)]
  rfl
theorem retCT {T : Tab} {c1 t b1 u : Nat} {s : St} {cs1 : List D} {l1 : Bool} {d : D} (h1 : s.get c1 = .ptr b1 0) (h2 : s.blk b1 = some ⟨cs1, l1⟩) (h5 : s.get u = .d d)
    (ha : Tab.agg T t = true) (hs1 : T.size t = cs1.length) : RetOk T [.cell c1 t, .tmp u] (.tup [.agg cs1, .d d]) [] s := by
  unfold RetOk evalRes
  rw [h1]
  simp only [h2, ha, if_true, evalRes, h5]
  refine ⟨by omega, .inl ⟨?_, trivial⟩⟩
  rw [List.drop_zero, hs1, List.take_of_length_le (Nat.le_refl _)]
  rfl

theorem sgn_tdiv (s t : Bool) (m n : Nat) : (sgn s m).tdiv (sgn t n) = sgn (s != t) (m / n) := by
  have e : (m : Int).tdiv n = (m / n : Nat) := rfl
  cases s <;> cases t <;> simp [sgn, Int.tdiv_neg, Int.neg_tdiv, e]
theorem sgn_tmod (s t : Bool) (m n : Nat) : (sgn s m).tmod (sgn t n) = sgn s (m % n) := by
  have e : (m : Int).tmod n = (m % n : Nat) := rfl
  cases s <;> cases t <;> simp [sgn, Int.tmod_neg, Int.neg_tmod, e]

theorem quo_fn (s t : Bool) (l m : List Nat) (hl1 : l.length ≤ 2 ^ 38) (hm1 : m.length ≤ 2 ^ 38) (dl : Dg l) (dm : Dg m) (h0 : val m ≠ 0) :
    Fn Try.prog 233 [.agg (ic s l), .agg (ic t m)] [] (.tup [.agg (iz ((ival s l).tdiv (ival t m))), .agg (iz ((ival s l).tmod (ival t m))), .d (.int .i64 0)]) [] := by
  refine fn0 (nt := 32) (res := [.cell 4 46, .cell 5 46, .tmp 6]) Try.func233 rfl (by decide) rfl rfl rfl rfl ?_
  intro Cx hP hnt hl
  have hz := dzero_fn t m (by omega) dm
  rw [decide_eq_false h0] at hz
  have hlong := long_fn l m hl1 hm1 dl dm h0
  refine awp_sx prog_ok hP hnt [] [] [] [2, 3, 4, 5] (by kernel_rfl) (G := fun K => K (St.mk [(2, V.ptr 0 0), (3, V.ptr 1 0), (4, V.ptr 2 0), (5, V.ptr 3 0)] [(0, some (Blk.mk [D.bool s, du l] true)), (1, some (Blk.mk [D.bool t, du m] true)), (2, some (Blk.mk [D.bool false, D.lst 0 []] true)), (3, some (Blk.mk [D.bool false, D.lst 0 []] true))] 5)) (fun K => by kernel_rfl) ?_
  refine awp_seq_k fun K hK => ?_
  refine awp_sx prog_ok hP hnt [] [.val (.d (.bool false))] [] [2, 3, 4, 5, 10] (by kernel_rfl) (G := fun K => Fn Try.prog 234 [V.agg [D.bool t, du m]] [] (V.d (D.bool false)) [] ∧ K (St.mk [(2, V.ptr 0 0), (3, V.ptr 1 0), (4, V.ptr 2 0), (5, V.ptr 3 0), (10, V.d (D.bool false))] [(0, some (Blk.mk [D.bool s, du l] true)), (1, some (Blk.mk [D.bool t, du m] true)), (2, some (Blk.mk [D.bool false, D.lst 0 []] true)), (3, some (Blk.mk [D.bool false, D.lst 0 []] true))] 7)) (fun K => by kernel_rfl) ?_
  have hva := val_lt dl
  have hq : (dig (val l / val m)).length ≤ 2 ^ 40 := Nat.le_trans (dig_len (Nat.lt_of_le_of_lt (Nat.div_le_self _ _) hva)) (by omega)
  have hr : (dig (val l % val m)).length ≤ 2 ^ 40 := Nat.le_trans (dig_len (Nat.lt_of_le_of_lt (Nat.mod_le _ _) hva)) (by omega)
  have f1 := from_fn (s != t) (dig (val l / val m)) hq (dig_lt _)
  have f2 := from_fn s (dig (val l % val m)) hr (dig_lt _)
  rw [show ival (s != t) (dig (val l / val m)) = (ival s l).tdiv (ival t m) from by unfold ival; rw [val_dig, sgn_tdiv]] at f1
  rw [show ival s (dig (val l % val m)) = (ival s l).tmod (ival t m) from by unfold ival; rw [val_dig, sgn_tmod]] at f2
  refine ⟨hz, awp_cond (b := false) rfl nofun fun _ => awp_skip (hK _ ?_)⟩
  refine awp_sx prog_ok hP hnt [] [.val (.tup [.d (du (dig (val l / val m))), .d (du (dig (val l % val m)))])] [some [du l], some [du m]] [2, 3, 4, 5, 7, 8] (by kernel_rfl) (G := fun K => [D.bool s, du l][1]? = some (du l) ∧ [D.bool t, du m][1]? = some (du m) ∧ Fn Try.prog 240 [V.d (du l), V.d (du m)] [] (V.tup [V.d (du (dig (val l / val m))), V.d (du (dig (val l % val m)))]) [] ∧ K (St.mk [(2, V.ptr 0 0), (3, V.ptr 1 0), (4, V.ptr 2 0), (5, V.ptr 3 0), (7, V.d (du (dig (val l / val m)))), (8, V.d (du (dig (val l % val m))))] [(0, some (Blk.mk [D.bool s, du l] true)), (1, some (Blk.mk [D.bool t, du m] true)), (2, some (Blk.mk [D.bool false, D.lst 0 []] true)), (3, some (Blk.mk [D.bool false, D.lst 0 []] true))] 17)) (fun K => by kernel_rfl) ?_
  refine ⟨rfl, rfl, hlong, ?_⟩
  obtain ⟨Q, hQ⟩ : ∃ Q, Q = (ival s l).tdiv (ival t m) := ⟨_, rfl⟩
  obtain ⟨R, hR⟩ : ∃ R, R = (ival s l).tmod (ival t m) := ⟨_, rfl⟩
  rw [← hQ] at f1 ⊢
  rw [← hR] at f2 ⊢
  refine awp_sx prog_ok hP hnt [(25, .bool (s != t))] [.val (.agg (iz Q)), .val (.agg (iz R))] [some [.bool s], some [.bool t], some [.bool s]] [4, 5, 6] (by kernel_rfl) (G := fun K => [D.bool s, du l][0]? = some (D.bool s) ∧ [D.bool t, du m][0]? = some (D.bool t) ∧ (!s == t) = (s != t) ∧ Fn Try.prog 182 [V.d (D.bool (s != t)), V.d (du (dig (val l / val m)))] [] (V.agg [D.bool (decide (Q < (0 : Int))), du (dig Q.natAbs)]) [] ∧ [D.bool s, du l][0]? = some (D.bool s) ∧ Fn Try.prog 182 [V.d (D.bool s), V.d (du (dig (val l % val m)))] [] (V.agg [D.bool (decide (R < (0 : Int))), du (dig R.natAbs)]) [] ∧ 0 + (iz Q).length ≤ [D.bool false, D.lst 0 []].length ∧ 0 + (iz R).length ≤ [D.bool false, D.lst 0 []].length ∧ K (St.mk [(4, V.ptr 2 0), (5, V.ptr 3 0), (6, V.d (D.int IntKind.i64 (0 : Int)))] [(0, some (Blk.mk [D.bool s, du l] true)), (1, some (Blk.mk [D.bool t, du m] true)), (2, some (Blk.mk [D.bool (decide (Q < (0 : Int))), du (dig Q.natAbs)] true)), (3, some (Blk.mk [D.bool (decide (R < (0 : Int))), du (dig R.natAbs)] true))] 31)) (fun K => by kernel_rfl) ?_
  exact ⟨rfl, rfl, rfl, f1, rfl, f2, by simp [iz], by simp [iz], awp_ret ⟨.inl rfl, retCCT rfl rfl rfl rfl rfl rfl rfl rfl⟩⟩

/-- division of what is not negative -/
theorem floor_fn (l m : List Nat) (hl1 : l.length ≤ 2 ^ 38) (hm1 : m.length ≤ 2 ^ 38) (dl : Dg l) (dm : Dg m) (h0 : val m ≠ 0) :
    Fn Try.prog 189 [.agg (ic false l), .agg (ic false m)] [] (.tup [.agg (iz (val l / val m : Nat)), .agg (iz (val l % val m : Nat)), .d (.int .i64 0)]) [] := by
  refine fn0 (nt := 37) (res := [.cell 4 46, .cell 5 46, .tmp 6]) Try.func189 rfl (by decide) rfl rfl rfl rfl ?_
  intro Cx hP hnt hl
  have hq := quo_fn false false l m hl1 hm1 dl dm h0
  have eq : (ival false l).tdiv (ival false m) = (val l / val m : Nat) := rfl
  have er : (ival false l).tmod (ival false m) = (val l % val m : Nat) := rfl
  rw [eq, er] at hq
  have hva := val_lt dl
  have hr : (dig (val l % val m)).length ≤ 2 ^ 40 := Nat.le_trans (dig_len (Nat.lt_of_le_of_lt (Nat.mod_le _ _) hva)) (by omega)
  obtain ⟨Q, hQ⟩ : ∃ Q, Q = val l / val m := ⟨_, rfl⟩
  obtain ⟨R, hR⟩ : ∃ R, R = val l % val m := ⟨_, rfl⟩
  rw [← hQ, ← hR] at hq ⊢
  rw [← hR] at hr
  have hz := dzero_fn false (dig R) hr (dig_lt _)
  rw [val_dig] at hz
  have hiz : ic false (dig R) = iz (R : Int) := by rw [iz_ic, decide_eq_false (by omega)]; rfl
  rw [hiz] at hz
  refine awp_sx prog_ok hP hnt [] [] [] [2, 3, 4, 5] (by kernel_rfl) (G := fun K => K (St.mk [(2, V.ptr 0 0), (3, V.ptr 1 0), (4, V.ptr 2 0), (5, V.ptr 3 0)] [(0, some (Blk.mk [D.bool false, du l] true)), (1, some (Blk.mk [D.bool false, du m] true)), (2, some (Blk.mk [D.bool false, D.lst 0 []] true)), (3, some (Blk.mk [D.bool false, D.lst 0 []] true))] 5)) (fun K => by kernel_rfl) ?_
  refine awp_sx prog_ok hP hnt [] [.val (.tup [.agg (iz (Q : Nat)), .agg (iz (R : Nat)), .d (.int .i64 0)])] [some (ic false l), some (ic false m)] [3, 4, 5, 6] (by kernel_rfl) (G := fun K => ([D.bool false, du l][0]? = some (D.bool false) ∧ [D.bool false, du l][1]? = some (du l)) ∧ ([D.bool false, du m][0]? = some (D.bool false) ∧ [D.bool false, du m][1]? = some (du m)) ∧ Fn Try.prog 233 [V.agg [D.bool false, du l], V.agg [D.bool false, du m]] [] (V.tup [V.agg [D.bool (decide ((↑Q : Int) < (0 : Int))), du (dig (↑Q : Int).natAbs)], V.agg [D.bool (decide ((↑R : Int) < (0 : Int))), du (dig (↑R : Int).natAbs)], V.d (D.int IntKind.i64 (0 : Int))]) [] ∧ 0 + (iz (↑Q : Int)).length ≤ [D.bool false, D.lst 0 []].length ∧ 0 + (iz (↑R : Int)).length ≤ [D.bool false, D.lst 0 []].length ∧ K (St.mk [(3, V.ptr 1 0), (4, V.ptr 2 0), (5, V.ptr 3 0), (6, V.d (D.int IntKind.i64 (0 : Int)))] [(0, some (Blk.mk [D.bool false, du l] true)), (1, some (Blk.mk [D.bool false, du m] true)), (2, some (Blk.mk [D.bool (decide ((↑Q : Int) < (0 : Int))), du (dig (↑Q : Int).natAbs)] true)), (3, some (Blk.mk [D.bool (decide ((↑R : Int) < (0 : Int))), du (dig (↑R : Int).natAbs)] true))] 15)) (fun K => by kernel_rfl) ?_
  refine ⟨⟨rfl, rfl⟩, ⟨rfl, rfl⟩, hq, by simp [iz], by simp [iz], ?_⟩
  have hdR : decide ((R : Int) < 0) = false := decide_eq_false (by omega)
  refine awp_cut (ι := Unit) (fun _ => ⟨[(4, .ptr 0 0), (5, .ptr 1 0), (6, .d (.int .i64 0))], [(0, some ⟨iz (Q : Nat), true⟩), (1, some ⟨iz (R : Nat), true⟩)], 2⟩) (fun _ => True) ?_ ?_
  · by_cases hR0 : R = 0
    · rw [decide_eq_true hR0] at hz
      refine awp_sx prog_ok hP hnt [(15, .bool true), (19, .bool false), (20, .bool false)] [.val (.d (.bool true))] [some (iz (R : Nat))] [3, 4, 5, 6, 27] (by kernel_rfl) (G := fun K => ((0 : Int) == (0 : Int)) = true ∧ ([D.bool (decide ((↑R : Int) < (0 : Int))), du (dig (↑R : Int).natAbs)][0]? = some (D.bool (decide ((↑R : Int) < (0 : Int)))) ∧ [D.bool (decide ((↑R : Int) < (0 : Int))), du (dig (↑R : Int).natAbs)][1]? = some (du (dig (↑R : Int).natAbs))) ∧ Fn Try.prog 234 [V.agg [D.bool (decide ((↑R : Int) < (0 : Int))), du (dig (↑R : Int).natAbs)]] [] (V.d (D.bool true)) [] ∧ (!true) = false ∧ false = false ∧ K (St.mk [(3, V.ptr 1 0), (4, V.ptr 2 0), (5, V.ptr 3 0), (6, V.d (D.int IntKind.i64 (0 : Int))), (27, V.d (D.bool false))] [(0, some (Blk.mk [D.bool false, du l] true)), (1, some (Blk.mk [D.bool false, du m] true)), (2, some (Blk.mk [D.bool (decide ((↑Q : Int) < (0 : Int))), du (dig (↑Q : Int).natAbs)] true)), (3, some (Blk.mk [D.bool (decide ((↑R : Int) < (0 : Int))), du (dig (↑R : Int).natAbs)] true))] 29)) (fun K => by kernel_rfl) ?_
      refine ⟨rfl, ⟨rfl, rfl⟩, hz, rfl, rfl, awp_cond (b := false) rfl nofun fun _ => awp_skip ⟨(), [(0, 2), (1, 3)], trivial, ?_⟩⟩
      (constructor <;> simp [hl, envOk, memOk, conv, St.get, St.blk, iz])
    · rw [decide_eq_false hR0] at hz
      refine awp_sx prog_ok hP hnt [(15, .bool true), (19, .bool true), (20, .bool true), (26, .bool false)] [.val (.d (.bool false))] [some (iz (R : Nat)), some [.bool false], some [.bool false]] [3, 4, 5, 6, 27] (by kernel_rfl) (G := fun K => ((0 : Int) == (0 : Int)) = true ∧ ([D.bool (decide ((↑R : Int) < (0 : Int))), du (dig (↑R : Int).natAbs)][0]? = some (D.bool (decide ((↑R : Int) < (0 : Int)))) ∧ [D.bool (decide ((↑R : Int) < (0 : Int))), du (dig (↑R : Int).natAbs)][1]? = some (du (dig (↑R : Int).natAbs))) ∧ Fn Try.prog 234 [V.agg [D.bool (decide ((↑R : Int) < (0 : Int))), du (dig (↑R : Int).natAbs)]] [] (V.d (D.bool false)) [] ∧ (!false) = true ∧ true = true ∧ [D.bool (decide ((↑R : Int) < (0 : Int))), du (dig (↑R : Int).natAbs)][0]? = some (D.bool false) ∧ [D.bool false, du m][0]? = some (D.bool false) ∧ (!false == false) = false ∧ K (St.mk [(3, V.ptr 1 0), (4, V.ptr 2 0), (5, V.ptr 3 0), (6, V.d (D.int IntKind.i64 (0 : Int))), (27, V.d (D.bool false))] [(0, some (Blk.mk [D.bool false, du l] true)), (1, some (Blk.mk [D.bool false, du m] true)), (2, some (Blk.mk [D.bool (decide ((↑Q : Int) < (0 : Int))), du (dig (↑Q : Int).natAbs)] true)), (3, some (Blk.mk [D.bool (decide ((↑R : Int) < (0 : Int))), du (dig (↑R : Int).natAbs)] true))] 29)) (fun K => by kernel_rfl) ?_
      refine ⟨rfl, ⟨rfl, rfl⟩, hz, rfl, rfl, by rw [hdR]; rfl, rfl, rfl, awp_cond (b := false) rfl nofun fun _ => awp_skip ⟨(), [(0, 2), (1, 3)], trivial, ?_⟩⟩
      (constructor <;> simp [hl, envOk, memOk, conv, St.get, St.blk, iz])
  intro _ _
  refine awp_sx prog_ok hP hnt [] [] [some (iz (Q : Nat)), some (iz (R : Nat))] [4, 5, 6] (by kernel_rfl) (G := fun K => ((iz (↑Q : Int))[0]? = some (D.bool (decide ((↑Q : Int) < (0 : Int)))) ∧ (iz (↑Q : Int))[1]? = some (du (dig (↑Q : Int).natAbs))) ∧ ((iz (↑R : Int))[0]? = some (D.bool (decide ((↑R : Int) < (0 : Int)))) ∧ (iz (↑R : Int))[1]? = some (du (dig (↑R : Int).natAbs))) ∧ 0 + (iz (↑Q : Int)).length ≤ (iz (↑Q : Int)).length ∧ 0 + (iz (↑R : Int)).length ≤ (iz (↑R : Int)).length ∧ K (St.mk [(4, V.ptr 0 0), (5, V.ptr 1 0), (6, V.d (D.int IntKind.i64 (0 : Int)))] [(0, some (Blk.mk [D.bool (decide ((↑Q : Int) < (0 : Int))), du (dig (↑Q : Int).natAbs)] true)), (1, some (Blk.mk [D.bool (decide ((↑R : Int) < (0 : Int))), du (dig (↑R : Int).natAbs)] true))] 8)) (fun K => by kernel_rfl) ?_
  exact ⟨⟨rfl, rfl⟩, ⟨rfl, rfl⟩, by omega, by omega, awp_ret ⟨.inl rfl, retCCT rfl rfl rfl rfl rfl rfl rfl rfl⟩⟩

theorem iz_zero' : iz 0 = [.bool false, .lst 0 []] := by unfold iz; rw [show (0 : Int).natAbs = 0 from rfl, dig_zero]; rfl

theorem exact_fn (s t : Bool) (l m : List Nat) (hl1 : l.length ≤ 2 ^ 38) (hm1 : m.length ≤ 2 ^ 38) (dl : Dg l) (dm : Dg m) (h0 : val m ≠ 0) :
    Fn Try.prog 204 [.agg (ic s l), .agg (ic t m)] [] (.tup [.agg (iz (if ival t m ∣ ival s l then (ival s l).tdiv (ival t m) else 0)), .d (.int .i64 (if ival t m ∣ ival s l then 0 else 3))]) [] := by
  refine fn0 (nt := 26) (res := [.cell 4 46, .tmp 5]) Try.func204 rfl (by decide) rfl rfl rfl rfl ?_
  intro Cx hP hnt hl
  have hq := quo_fn s t l m hl1 hm1 dl dm h0
  refine awp_sx prog_ok hP hnt [] [] [] [2, 3, 4] (by kernel_rfl) (G := fun K => K (St.mk [(2, V.ptr 0 0), (3, V.ptr 1 0), (4, V.ptr 2 0)] [(0, some (Blk.mk [D.bool s, du l] true)), (1, some (Blk.mk [D.bool t, du m] true)), (2, some (Blk.mk [D.bool false, D.lst 0 []] true))] 4)) (fun K => by kernel_rfl) ?_
  obtain ⟨Q, hQ⟩ : ∃ Q, Q = (ival s l).tdiv (ival t m) := ⟨_, rfl⟩
  obtain ⟨R, hR⟩ : ∃ R, R = (ival s l).tmod (ival t m) := ⟨_, rfl⟩
  have hRn : R.natAbs ≤ val l := by
    rw [hR]; unfold ival; rw [sgn_tmod, sgn_abs]; exact Nat.mod_le _ _
  have hr : (dig R.natAbs).length ≤ 2 ^ 40 := Nat.le_trans (dig_len (Nat.lt_of_le_of_lt hRn (val_lt dl))) (by omega)
  have hz := dzero_fn (decide (R < 0)) (dig R.natAbs) hr (dig_lt _)
  rw [val_dig, ← iz_ic] at hz
  have hdvd : ival t m ∣ ival s l ↔ R = 0 := by rw [hR]; exact Int.dvd_iff_tmod_eq_zero
  rw [← hQ, ← hR] at hq
  rw [← hQ]
  refine awp_sx prog_ok hP hnt [] [.val (.tup [.agg (iz Q), .agg (iz R), .d (.int .i64 0)])] [some (ic s l), some (ic t m)] [4, 6, 7, 8] (by kernel_rfl) (G := fun K => ([D.bool s, du l][0]? = some (D.bool s) ∧ [D.bool s, du l][1]? = some (du l)) ∧ ([D.bool t, du m][0]? = some (D.bool t) ∧ [D.bool t, du m][1]? = some (du m)) ∧ Fn Try.prog 233 [V.agg [D.bool s, du l], V.agg [D.bool t, du m]] [] (V.tup [V.agg [D.bool (decide (Q < (0 : Int))), du (dig Q.natAbs)], V.agg [D.bool (decide (R < (0 : Int))), du (dig R.natAbs)], V.d (D.int IntKind.i64 (0 : Int))]) [] ∧ 0 + (iz Q).length ≤ (TI.mk (Kind.struct [(0, 1), (1, 1)]) 2 32 [D.bool false, D.lst 0 []]).zero.length ∧ 0 + (iz R).length ≤ (TI.mk (Kind.struct [(0, 1), (1, 1)]) 2 32 [D.bool false, D.lst 0 []]).zero.length ∧ K (St.mk [(4, V.ptr 2 0), (6, V.ptr 11 0), (7, V.ptr 12 0), (8, V.d (D.int IntKind.i64 (0 : Int)))] [(0, some (Blk.mk [D.bool s, du l] true)), (1, some (Blk.mk [D.bool t, du m] true)), (2, some (Blk.mk [D.bool false, D.lst 0 []] true)), (11, some (Blk.mk [D.bool (decide (Q < (0 : Int))), du (dig Q.natAbs)] true)), (12, some (Blk.mk [D.bool (decide (R < (0 : Int))), du (dig R.natAbs)] true))] 16)) (fun K => by kernel_rfl) ?_
  refine ⟨⟨rfl, rfl⟩, ⟨rfl, rfl⟩, hq, by simp [iz], by simp [iz], ?_⟩
  by_cases hR0 : R = 0
  · rw [if_pos (hdvd.2 hR0), if_pos (hdvd.2 hR0)]
    refine awp_seq_k fun K hK => ?_
    rw [decide_eq_true (by rw [hR0]; rfl)] at hz
    refine awp_sx prog_ok hP hnt [(17, .bool true), (21, .bool false), (22, .bool false)] [.val (.d (.bool true))] [some (iz R)] [4, 6, 8, 22] (by kernel_rfl) (G := fun K => ((0 : Int) == (0 : Int)) = true ∧ ([D.bool (decide (R < (0 : Int))), du (dig R.natAbs)][0]? = some (D.bool (decide (R < (0 : Int)))) ∧ [D.bool (decide (R < (0 : Int))), du (dig R.natAbs)][1]? = some (du (dig R.natAbs))) ∧ Fn Try.prog 234 [V.agg [D.bool (decide (R < (0 : Int))), du (dig R.natAbs)]] [] (V.d (D.bool true)) [] ∧ (!true) = false ∧ false = false ∧ K (St.mk [(4, V.ptr 2 0), (6, V.ptr 11 0), (8, V.d (D.int IntKind.i64 (0 : Int))), (22, V.d (D.bool false))] [(0, some (Blk.mk [D.bool s, du l] true)), (1, some (Blk.mk [D.bool t, du m] true)), (2, some (Blk.mk [D.bool false, D.lst 0 []] true)), (11, some (Blk.mk [D.bool (decide (Q < (0 : Int))), du (dig Q.natAbs)] true)), (12, some (Blk.mk [D.bool (decide (R < (0 : Int))), du (dig R.natAbs)] true))] 23)) (fun K => by kernel_rfl) ?_
    refine ⟨rfl, ⟨rfl, rfl⟩, hz, rfl, rfl, awp_cond (b := false) rfl nofun fun _ => awp_skip (hK _ ?_)⟩
    refine awp_sx prog_ok hP hnt [] [] [some (iz Q)] [4, 5] (by kernel_rfl) (G := fun K => ([D.bool (decide (Q < (0 : Int))), du (dig Q.natAbs)][0]? = some (D.bool (decide (Q < (0 : Int)))) ∧ [D.bool (decide (Q < (0 : Int))), du (dig Q.natAbs)][1]? = some (du (dig Q.natAbs))) ∧ 0 + (iz Q).length ≤ [D.bool false, D.lst 0 []].length ∧ K (St.mk [(4, V.ptr 2 0), (5, V.d (D.int IntKind.i64 (0 : Int)))] [(0, some (Blk.mk [D.bool s, du l] true)), (1, some (Blk.mk [D.bool t, du m] true)), (2, some (Blk.mk [D.bool (decide (Q < (0 : Int))), du (dig Q.natAbs)] true)), (11, some (Blk.mk [D.bool (decide (Q < (0 : Int))), du (dig Q.natAbs)] true)), (12, some (Blk.mk [D.bool (decide (R < (0 : Int))), du (dig R.natAbs)] true))] 27)) (fun K => by kernel_rfl) ?_
    exact ⟨⟨rfl, rfl⟩, by simp [iz], awp_ret ⟨.inl rfl, retCT rfl rfl rfl rfl rfl⟩⟩
  · have hnd : ¬ ival t m ∣ ival s l := fun h => hR0 (hdvd.1 h)
    rw [if_neg hnd, if_neg hnd]
    refine awp_seq_k fun K hK => ?_
    rw [decide_eq_false (by omega)] at hz
    refine awp_sx prog_ok hP hnt [(17, .bool true), (21, .bool true), (22, .bool true)] [.val (.d (.bool false))] [some (iz R)] [4, 6, 8, 22] (by kernel_rfl) (G := fun K => ((0 : Int) == (0 : Int)) = true ∧ ([D.bool (decide (R < (0 : Int))), du (dig R.natAbs)][0]? = some (D.bool (decide (R < (0 : Int)))) ∧ [D.bool (decide (R < (0 : Int))), du (dig R.natAbs)][1]? = some (du (dig R.natAbs))) ∧ Fn Try.prog 234 [V.agg [D.bool (decide (R < (0 : Int))), du (dig R.natAbs)]] [] (V.d (D.bool false)) [] ∧ (!false) = true ∧ true = true ∧ K (St.mk [(4, V.ptr 2 0), (6, V.ptr 11 0), (8, V.d (D.int IntKind.i64 (0 : Int))), (22, V.d (D.bool true))] [(0, some (Blk.mk [D.bool s, du l] true)), (1, some (Blk.mk [D.bool t, du m] true)), (2, some (Blk.mk [D.bool false, D.lst 0 []] true)), (11, some (Blk.mk [D.bool (decide (Q < (0 : Int))), du (dig Q.natAbs)] true)), (12, some (Blk.mk [D.bool (decide (R < (0 : Int))), du (dig R.natAbs)] true))] 23)) (fun K => by kernel_rfl) ?_
    refine ⟨rfl, ⟨rfl, rfl⟩, hz, rfl, rfl, awp_cond (b := true) rfl (fun _ => ?_) nofun⟩
    refine awp_sx prog_ok hP hnt [] [] [] [4, 5] (by kernel_rfl) (G := fun K => 2 ≤ [D.bool false, D.lst 0 []].length ∧ K (St.mk [(4, V.ptr 2 0), (5, V.d (D.int IntKind.i64 (3 : Int)))] [(0, some (Blk.mk [D.bool s, du l] true)), (1, some (Blk.mk [D.bool t, du m] true)), (2, some (Blk.mk [D.bool false, D.lst 0 []] true)), (11, some (Blk.mk [D.bool (decide (Q < (0 : Int))), du (dig Q.natAbs)] true)), (12, some (Blk.mk [D.bool (decide (R < (0 : Int))), du (dig R.natAbs)] true))] 26)) (fun K => by kernel_rfl) ?_
    refine ⟨by simp, awp_ret ⟨.inl rfl, retCT (l1 := true) rfl (by rw [iz_zero']; rfl) rfl rfl rfl⟩⟩

theorem ibitlen_fn (s : Bool) (l : List Nat) (h : l.length ≤ 2 ^ 40) (hd : Dg l) : Fn Try.prog 190 [.agg (ic s l)] [] (.d (.int .i64 (blen (val l)))) [] := by
  refine fn0 (nt := 6) (res := [.tmp 2]) Try.func190 rfl (by decide) rfl rfl rfl rfl ?_
  intro Cx hP hnt hl
  have h1 := bitlen_fn l h hd
  refine awp_sx prog_ok hP hnt [] [] [] [1] (by kernel_rfl) (G := fun K => K (St.mk [(1, V.ptr 0 0)] [(0, some (Blk.mk [D.bool s, du l] true))] 2)) (fun K => by kernel_rfl) ?_
  refine awp_sx prog_ok hP hnt [] [.val (.d (.int .i64 (blen (val l))))] [some [du l]] [2] (by kernel_rfl) (G := fun K => [D.bool s, du l][1]? = some (du l) ∧ Fn Try.prog 235 [V.d (du l)] [] (V.d (D.int IntKind.i64 (↑(blen (val l)) : Int))) [] ∧ K (St.mk [(2, V.d (D.int IntKind.i64 (↑(blen (val l)) : Int)))] [(0, some (Blk.mk [D.bool s, du l] true))] 6)) (fun K => by kernel_rfl) ?_
  exact ⟨rfl, h1, awp_ret ⟨.inl rfl, retD rfl⟩⟩

theorem igcd_fn (s t : Bool) (l m : List Nat) (hl1 : l.length ≤ 2 ^ 38) (hm1 : m.length ≤ 2 ^ 38) (dl : Dg l) (dm : Dg m) :
    Fn Try.prog 202 [.agg (ic s l), .agg (ic t m)] [] (.agg (iz (Nat.gcd (val l) (val m) : Nat))) [] := by
  refine fn0 (nt := 53) (res := [.cell 4 46]) Try.func202 rfl (by decide) rfl rfl rfl rfl ?_
  intro Cx hP hnt hl
  have n1 := nnorm_fn l (by omega) dl
  have n2 := nnorm_fn m (by omega) dm
  have k1 := dig_le dl
  have k2 := dig_le dm
  refine awp_sx prog_ok hP hnt [] [] [] [2, 3, 4] (by kernel_rfl) (G := fun K => K (St.mk [(2, V.ptr 0 0), (3, V.ptr 1 0), (4, V.ptr 2 0)] [(0, some (Blk.mk [D.bool s, du l] true)), (1, some (Blk.mk [D.bool t, du m] true)), (2, some (Blk.mk [D.bool false, D.lst 0 []] true))] 3)) (fun K => by kernel_rfl) ?_
  refine awp_sx prog_ok hP hnt [] [.val (.d (du (dig (val l)))), .val (.d (du (dig (val m))))] [some [du l], some [du m]] [4, 5, 6] (by kernel_rfl) (G := fun K => [D.bool s, du l][1]? = some (du l) ∧ Fn Try.prog 230 [V.d (du l)] [] (V.d (du (dig (val l)))) [] ∧ [D.bool t, du m][1]? = some (du m) ∧ Fn Try.prog 230 [V.d (du m)] [] (V.d (du (dig (val m)))) [] ∧ K (St.mk [(4, V.ptr 2 0), (5, V.d (du (dig (val l)))), (6, V.d (du (dig (val m))))] [(0, some (Blk.mk [D.bool s, du l] true)), (1, some (Blk.mk [D.bool t, du m] true)), (2, some (Blk.mk [D.bool false, D.lst 0 []] true))] 11)) (fun K => by kernel_rfl) ?_
  refine ⟨rfl, n1, rfl, n2, ?_⟩
  obtain ⟨G, hG⟩ : ∃ G, G = Nat.gcd (val l) (val m) := ⟨_, rfl⟩
  obtain ⟨a, ha⟩ : ∃ a, a = val l := ⟨_, rfl⟩
  obtain ⟨b, hb⟩ : ∃ b, b = val m := ⟨_, rfl⟩
  rw [← hG]
  rw [← ha] at k1 hG ⊢
  rw [← hb] at k2 hG ⊢
  have hl2 : l.length ≤ 2 ^ 38 := hl1
  have ka : (dig a).length ≤ 2 ^ 38 := by omega
  have kb : (dig b).length ≤ 2 ^ 38 := by omega
  have hfr : ∀ g : Nat, (dig g).length ≤ 2 ^ 40 → Fn Try.prog 182 [.d (.bool false), .d (du (dig g))] [] (.agg (iz (g : Nat))) [] := fun g hg => by
    have := from_fn false (dig g) hg (dig_lt g)
    rwa [show ival false (dig g) = (g : Int) from by unfold ival sgn; rw [val_dig]; simp] at this
  have hmod : ∀ x y : Nat, (dig (x % y)).length ≤ (dig x).length := fun x y => dig_len (Nat.lt_of_le_of_lt (Nat.mod_le _ _) (by have := val_lt (dig_lt x); rwa [val_dig] at this))
  refine awp_cut (ι := Unit) (fun _ => ⟨[(4, .ptr 0 0), (5, .d (du (dig G)))], [(0, some ⟨[.bool false, .lst 0 []], true⟩)], 1⟩) (fun _ => (dig G).length ≤ 2 ^ 38) ?_ ?_
  · refine awp_block ?_
    refine awp_loop (ι := Nat × Nat) (fun ⟨x, y⟩ => ⟨[(4, .ptr 0 0), (5, .d (du (dig x))), (6, .d (du (dig y)))], [(0, some ⟨[.bool false, .lst 0 []], true⟩)], 1⟩) (fun ⟨x, y⟩ => Nat.gcd x y = G ∧ (dig x).length ≤ 2 ^ 38 ∧ (dig y).length ≤ 2 ^ 38) (fun ⟨x, y⟩ => y) (a, b) [(0, 2)] ⟨hG.symm, ka, kb⟩ ?_ ?_
    · (constructor <;> simp [hl, envOk, memOk, conv, St.get, St.blk])
    rintro ⟨x, y⟩ ⟨hg, hx, hy⟩
    refine awp_seq_k fun K1 hK1 => ?_
    refine awp_sx prog_ok hP hnt [] [] [] [4, 5, 6, 21] (by kernel_rfl) (G := fun K => K (St.mk [(4, V.ptr 0 0), (5, V.d (du (dig x))), (6, V.d (du (dig y))), (21, V.d (D.bool (decide ((↑(dig y).length : Int) > (0 : Int)))))] [(0, some (Blk.mk [D.bool false, D.lst 0 []] true))] 4)) (fun K => by kernel_rfl) ?_
    refine awp_cond rfl (fun e => awp_skip (hK1 _ ?_)) (fun e => awp_exit ⟨(), [(0, 0)], ?_, ?_⟩)
    · simp at e
      have hy0 : y ≠ 0 := fun h => by subst h; rw [dig_zero] at e; simp at e
      have u1 := uint64_fn (dig x) (by omega) (dig_lt x)
      have u2 := uint64_fn (dig y) (by omega) (dig_lt y)
      rw [val_dig] at u1 u2
      have hlo := long_fn (dig x) (dig y) hx hy (dig_lt x) (dig_lt y) (by rw [val_dig]; exact hy0)
      rw [val_dig, val_dig] at hlo
      refine awp_block ?_
      refine awp_cut (ι := Unit) (fun _ => ⟨[(4, .ptr 0 0), (5, .d (du (dig x))), (6, .d (du (dig y)))], [(0, some ⟨[.bool false, .lst 0 []], true⟩)], 1⟩) (fun _ => True) ?_ ?_
      · refine awp_sx prog_ok hP hnt [] [.val (.tup [.d (.int .u64 (if x < 18446744073709551616 then x else 0 : Nat)), .d (.bool (decide (x < 18446744073709551616)))])] [] [4, 5, 6, 7, 8] (by kernel_rfl) (G := fun K => Fn Try.prog 239 [V.d (du (dig x))] [] (V.tup [V.d (D.int IntKind.u64 (↑(if x < 18446744073709551616 then x else 0) : Int)), V.d (D.bool (decide (x < 18446744073709551616)))]) [] ∧ K (St.mk [(4, V.ptr 0 0), (5, V.d (du (dig x))), (6, V.d (du (dig y))), (7, V.d (D.int IntKind.u64 (↑(if x < 18446744073709551616 then x else 0) : Int))), (8, V.d (D.bool (decide (x < 18446744073709551616))))] [(0, some (Blk.mk [D.bool false, D.lst 0 []] true))] 11)) (fun K => by kernel_rfl) ?_
        refine ⟨u1, ?_⟩
        refine awp_sx prog_ok hP hnt [] [] [] [4, 5, 6, 7, 27] (by kernel_rfl) (G := fun K => K (St.mk [(4, V.ptr 0 0), (5, V.d (du (dig x))), (6, V.d (du (dig y))), (7, V.d (D.int IntKind.u64 (↑(if x < 18446744073709551616 then x else 0) : Int))), (27, V.d (D.bool (decide (x < 18446744073709551616))))] [(0, some (Blk.mk [D.bool false, D.lst 0 []] true))] 12)) (fun K => by kernel_rfl) ?_
        refine awp_cond rfl (fun e1 => ?_) (fun e1 => awp_skip ⟨(), [(0, 0)], trivial, ?_⟩)
        · have hx64 := of_decide_eq_true e1
          rw [if_pos hx64]
          refine awp_sx prog_ok hP hnt [] [.val (.tup [.d (.int .u64 (if y < 18446744073709551616 then y else 0 : Nat)), .d (.bool (decide (y < 18446744073709551616)))])] [] [4, 5, 6, 7, 9, 10] (by kernel_rfl) (G := fun K => Fn Try.prog 239 [V.d (du (dig y))] [] (V.tup [V.d (D.int IntKind.u64 (↑(if y < 18446744073709551616 then y else 0) : Int)), V.d (D.bool (decide (y < 18446744073709551616)))]) [] ∧ K (St.mk [(4, V.ptr 0 0), (5, V.d (du (dig x))), (6, V.d (du (dig y))), (7, V.d (D.int IntKind.u64 (↑x : Int))), (9, V.d (D.int IntKind.u64 (↑(if y < 18446744073709551616 then y else 0) : Int))), (10, V.d (D.bool (decide (y < 18446744073709551616))))] [(0, some (Blk.mk [D.bool false, D.lst 0 []] true))] 19)) (fun K => by kernel_rfl) ?_
          refine ⟨u2, ?_⟩
          refine awp_sx prog_ok hP hnt [] [] [] [4, 5, 6, 7, 9, 33] (by kernel_rfl) (G := fun K => K (St.mk [(4, V.ptr 0 0), (5, V.d (du (dig x))), (6, V.d (du (dig y))), (7, V.d (D.int IntKind.u64 (↑x : Int))), (9, V.d (D.int IntKind.u64 (↑(if y < 18446744073709551616 then y else 0) : Int))), (33, V.d (D.bool (decide (y < 18446744073709551616))))] [(0, some (Blk.mk [D.bool false, D.lst 0 []] true))] 20)) (fun K => by kernel_rfl) ?_
          refine awp_cond rfl (fun e2 => ?_) (fun e2 => awp_skip ⟨(), [(0, 0)], trivial, ?_⟩)
          · have hy64 := of_decide_eq_true e2
            rw [if_pos hy64]
            refine awp_cut (ι := Unit) (fun _ => ⟨[(4, .ptr 0 0), (7, .d (.int .u64 G))], [(0, some ⟨[.bool false, .lst 0 []], true⟩)], 1⟩) (fun _ => G < 18446744073709551616) ?_ ?_
            · refine awp_block ?_
              refine awp_loop (ι := Nat × Nat) (fun ⟨x, y⟩ => ⟨[(4, .ptr 0 0), (7, .d (.int .u64 x)), (9, .d (.int .u64 y))], [(0, some ⟨[.bool false, .lst 0 []], true⟩)], 1⟩) (fun ⟨x, y⟩ => Nat.gcd x y = G ∧ x < 18446744073709551616 ∧ y < 18446744073709551616) (fun ⟨x, y⟩ => y) (x, y) [(0, 0)] ⟨hg, hx64, hy64⟩ ?_ ?_
              · (constructor <;> simp [hl, envOk, memOk, conv, St.get, St.blk])
              rintro ⟨p, q⟩ ⟨hpg, hp64, hq64⟩
              refine awp_seq_k fun K2 hK2 => ?_
              refine awp_sx prog_ok hP hnt [] [] [] [4, 7, 9, 35] (by kernel_rfl) (G := fun K => K (St.mk [(4, V.ptr 0 0), (7, V.d (D.int IntKind.u64 (↑p : Int))), (9, V.d (D.int IntKind.u64 (↑q : Int))), (35, V.d (D.bool ((↑q : Int) != (0 : Int))))] [(0, some (Blk.mk [D.bool false, D.lst 0 []] true))] 3)) (fun K => by kernel_rfl) ?_
              refine awp_cond rfl (fun e3 => awp_skip (hK2 _ ?_)) (fun e3 => awp_exit ⟨(), [(0, 0)], ?_, ?_⟩)
              · simp at e3
                have em : (p : Int).tmod q = (p % q : Nat) := rfl
                have hml : p % q < q := Nat.mod_lt _ (by omega)
                refine awp_block ?_
                refine awp_x prog_ok hP hnt [(39, .int .u64 (p % q : Nat))] [] [] [4, 7, 9] (by kernel_rfl) (G := fun K => (↑q : Int) ≠ (0 : Int) ∧ (↑p : Int).tmod (↑q : Int) = (↑(p % q) : Int) ∧ K (St.mk [(4, V.ptr 0 0), (7, V.d (D.int IntKind.u64 (↑q : Int))), (9, V.d (D.int IntKind.u64 (↑(p % q) : Int)))] [(0, some (Blk.mk [D.bool false, D.lst 0 []] true))] 9)) (fun K => by kernel_rfl) ?_
                refine ⟨by omega, em, (q, p % q), [(0, 0)], ⟨⟨by rw [← hpg, Nat.gcd_comm p q, Nat.gcd_rec q p, Nat.gcd_comm], hq64, by omega⟩, hml⟩, ?_⟩
                (constructor <;> simp [hl, envOk, memOk, conv, St.get, St.blk])
              · simp at e3
                subst e3
                rw [Nat.gcd_zero_right] at hpg
                omega
              · simp at e3
                subst e3
                rw [Nat.gcd_zero_right] at hpg
                subst hpg
                (constructor <;> simp [hl, envOk, memOk, conv, St.get, St.blk])
            intro _ hG64
            have ho := of_fn G hG64
            have hG2 : (dig G).length ≤ 2 := dig_len (by omega)
            refine awp_sx prog_ok hP hnt [] [.val (.d (du (dig G))), .val (.agg (iz (G : Nat)))] [] [4] (by kernel_rfl) (G := fun K => Fn Try.prog 155 [V.d (D.int IntKind.u64 (↑G : Int))] [] (V.d (du (dig G))) [] ∧ Fn Try.prog 182 [V.d (D.bool false), V.d (du (dig G))] [] (V.agg [D.bool (decide ((↑G : Int) < (0 : Int))), du (dig (↑G : Int).natAbs)]) [] ∧ 0 + (iz (↑G : Int)).length ≤ [D.bool false, D.lst 0 []].length ∧ K (St.mk [(4, V.ptr 0 0)] [(0, some (Blk.mk [D.bool (decide ((↑G : Int) < (0 : Int))), du (dig (↑G : Int).natAbs)] true))] 5)) (fun K => by kernel_rfl) ?_
            exact ⟨ho, hfr G (by omega), by simp [iz], awp_ret ⟨.inl rfl, retC (l := true) rfl rfl rfl rfl⟩⟩
          · (constructor <;> simp [hl, envOk, memOk, conv, St.get, St.blk])
        · (constructor <;> simp [hl, envOk, memOk, conv, St.get, St.blk])
      intro _ _
      refine awp_sx prog_ok hP hnt [] [.val (.tup [.d (du (dig (x / y))), .d (du (dig (x % y)))])] [] [4, 6, 12] (by kernel_rfl) (G := fun K => Fn Try.prog 240 [V.d (du (dig x)), V.d (du (dig y))] [] (V.tup [V.d (du (dig (x / y))), V.d (du (dig (x % y)))]) [] ∧ K (St.mk [(4, V.ptr 0 0), (6, V.d (du (dig y))), (12, V.d (du (dig (x % y))))] [(0, some (Blk.mk [D.bool false, D.lst 0 []] true))] 9)) (fun K => by kernel_rfl) ?_
      refine ⟨hlo, ?_⟩
      refine awp_x prog_ok hP hnt [] [] [] [4, 5, 6] (by kernel_rfl) (G := fun K => K (St.mk [(4, V.ptr 0 0), (6, V.d (du (dig (x % y)))), (5, V.d (du (dig y)))] [(0, some (Blk.mk [D.bool false, D.lst 0 []] true))] 13)) (fun K => by kernel_rfl) ?_
      refine ⟨(y, x % y), [(0, 0)], ⟨⟨by rw [← hg, Nat.gcd_comm x y, Nat.gcd_rec y x, Nat.gcd_comm], hy, by have := hmod x y; omega⟩, Nat.mod_lt _ (by omega)⟩, ?_⟩
      (constructor <;> simp [hl, envOk, memOk, conv, St.get, St.blk])
    · simp at e
      have hy0 : y = 0 := by rw [← val_dig y, e]; rfl
      subst hy0
      rw [Nat.gcd_zero_right] at hg
      rw [← hg]; exact hx
    · simp at e
      have hy0 : y = 0 := by rw [← val_dig y, e]; rfl
      subst hy0
      rw [Nat.gcd_zero_right] at hg
      subst hg
      (constructor <;> simp [hl, envOk, memOk, conv, St.get, St.blk])
  intro _ hGl
  refine awp_sx prog_ok hP hnt [] [.val (.agg (iz (G : Nat)))] [] [4] (by kernel_rfl) (G := fun K => Fn Try.prog 182 [V.d (D.bool false), V.d (du (dig G))] [] (V.agg [D.bool (decide ((↑G : Int) < (0 : Int))), du (dig (↑G : Int).natAbs)]) [] ∧ 0 + (iz (↑G : Int)).length ≤ [D.bool false, D.lst 0 []].length ∧ K (St.mk [(4, V.ptr 0 0)] [(0, some (Blk.mk [D.bool (decide ((↑G : Int) < (0 : Int))), du (dig (↑G : Int).natAbs)] true))] 4)) (fun K => by kernel_rfl) ?_
  exact ⟨hfr G (by omega), by simp [iz], awp_ret ⟨.inl rfl, retC (l := true) rfl rfl rfl rfl⟩⟩
end Go.Abs

set_option linter.unusedVariables false
set_option linter.unusedSimpArgs false
namespace Go.Abs
open Go Go.Proofs
set_option maxRecDepth 100000

/-- a fraction's cells -/
def rt (x : Int) (d : Nat) : List D := [.bool (decide (x < 0)), du (dig x.natAbs), du (dig d)]
/-- in lowest terms -/
def rnum (x : Int) (d : Nat) : Int := if d = 0 then 0 else x.tdiv (Nat.gcd x.natAbs d)
def rden (x : Int) (d : Nat) : Nat := if d = 0 then 1 else d / Nat.gcd x.natAbs d

theorem iz_nat' (n : Nat) : iz (n : Int) = ic false (dig n) := by rw [iz_ic, decide_eq_false (by omega)]; rfl

theorem one_fn : Fn Try.prog 183 [] [] (.d (du (dig 1))) [] := by
  refine fn0 (nt := 2) (res := [.tmp 0]) Try.func183 rfl (by decide) rfl rfl rfl rfl ?_
  intro Cx hP hnt hl
  have := of_fn 1 (by decide)
  refine awp_sx prog_ok hP hnt [] [] [] [] (by kernel_rfl) (G := fun K => K (St.mk [] [] 1)) (fun K => by kernel_rfl) ?_
  refine awp_sx prog_ok hP hnt [] [.val (.d (du (dig 1)))] [] [0] (by kernel_rfl) (G := fun K => Fn Try.prog 155 [V.d (D.int IntKind.u64 (1 : Int))] [] (V.d (du (dig 1))) [] ∧ K (St.mk [(0, V.d (du (dig 1)))] [] 3)) (fun K => by kernel_rfl) ?_
  exact ⟨this, awp_ret ⟨.inl rfl, retD rfl⟩⟩

theorem isOne_fn (n : Nat) (h : (dig n).length ≤ 2 ^ 40) : Fn Try.prog 231 [.d (du (dig n))] [] (.d (.bool (decide (n = 1)))) [] := by
  refine fn0 (nt := 12) (res := [.tmp 2]) Try.func231 rfl (by decide) rfl rfl rfl rfl ?_
  intro Cx hP hnt hl
  refine awp_sx prog_ok hP hnt [] [] [] [0] (by kernel_rfl) (G := fun K => K (St.mk [(0, V.d (du (dig n)))] [] 1)) (fun K => by kernel_rfl) ?_
  by_cases hl1 : (dig n).length = 1
  · have hn : n < 4294967296 := dig_lt_of_len (k := 1) (by omega)
    have h0 : n ≠ 0 := fun h => by rw [h, dig_zero] at hl1; simp at hl1
    have hd : dig n = [n] := by rw [dig_pos h0, Nat.mod_eq_of_lt hn, Nat.div_eq_of_lt hn, dig_zero]
    rw [hd]
    refine awp_sx prog_ok hP hnt [(5, .bool true)] [] [some [.int .u32 n]] [2] (by kernel_rfl) (G := fun K => ((↑[n].length : Int) == (1 : Int)) = true ∧ ((0 : Int) ≤ (0 : Int) ∧ (0 : Int) < (↑[n].length : Int) ∧ 1 ≤ (u32s [n]).length) ∧ (List.drop 0 (u32s [n]))[0]? = some (D.int IntKind.u32 (↑n : Int)) ∧ K (St.mk [(2, V.d (D.bool ((↑n : Int) == (1 : Int))))] [] 11)) (fun K => by kernel_rfl) ?_
    refine ⟨rfl, ⟨by omega, by simp, by simp⟩, rfl, awp_ret ⟨.inl rfl, retD ?_⟩⟩
    have : ((n : Int) == 1) = decide (n = 1) := by rw [Bool.eq_iff_iff]; simp; omega
    rw [← this]; rfl
  · have hn1 : n ≠ 1 := fun h => by subst h; exact hl1 (by rw [dig_pos (by omega)]; simp [dig_zero])
    refine awp_sx prog_ok hP hnt [(5, .bool false), (11, .bool false)] [] [] [2] (by kernel_rfl) (G := fun K => ((↑(dig n).length : Int) == (1 : Int)) = false ∧ false = false ∧ K (St.mk [(2, V.d (D.bool false))] [] 11)) (fun K => by kernel_rfl) ?_
    rw [decide_eq_false hn1]
    refine ⟨by simp; omega, rfl, awp_ret ⟨.inl rfl, retD rfl⟩⟩

theorem rmade_fn (s : Bool) (l m : List Nat) (hl1 : l.length ≤ 2 ^ 38) (hm1 : m.length ≤ 2 ^ 38) (dl : Dg l) (dm : Dg m) :
    Fn Try.prog 185 [.agg (ic s l), .d (du m)] [] (.agg (rt (rnum (ival s l) (val m)) (rden (ival s l) (val m)))) [] := by
  refine fn0 (nt := 57) (res := [.cell 4 78]) Try.func185 rfl (by decide) rfl rfl rfl rfl ?_
  intro Cx hP hnt hl
  have hnm := nnorm_fn m (by omega) dm
  have hlm := dig_le dm
  obtain ⟨d, hd⟩ : ∃ d, d = val m := ⟨_, rfl⟩
  obtain ⟨x, hx⟩ : ∃ x, x = ival s l := ⟨_, rfl⟩
  have hxn : val l = x.natAbs := by rw [hx]; unfold ival; rw [sgn_abs]
  rw [← hd] at hnm hlm ⊢
  rw [← hx]
  have hz := isZero_fn l (by omega) dl
  rw [hxn] at hz
  have ho := one_fn
  have h1 := isOne_fn d (by omega)
  have hin := inorm_fn s l (by omega) dl
  rw [← hx] at hin
  refine awp_sx prog_ok hP hnt [] [] [] [1, 2, 4] (by kernel_rfl) (G := fun K => K (St.mk [(1, V.d (du m)), (2, V.ptr 0 0), (4, V.ptr 1 0)] [(0, some (Blk.mk [D.bool s, du l] true)), (1, some (Blk.mk [D.bool false, D.lst 0 [], D.lst 0 []] true))] 2)) (fun K => by kernel_rfl) ?_
  refine awp_sx prog_ok hP hnt [] [.val (.d (du (dig d)))] [] [1, 2, 4] (by kernel_rfl) (G := fun K => Fn Try.prog 230 [V.d (du m)] [] (V.d (du (dig d))) [] ∧ K (St.mk [(1, V.d (du (dig d))), (2, V.ptr 0 0), (4, V.ptr 1 0)] [(0, some (Blk.mk [D.bool s, du l] true)), (1, some (Blk.mk [D.bool false, D.lst 0 [], D.lst 0 []] true))] 5)) (fun K => by kernel_rfl) ?_
  refine ⟨hnm, ?_⟩
  refine awp_seq_k fun K hK => ?_
  by_cases hd0 : d = 0
  · subst hd0
    rw [show rnum x 0 = 0 from if_pos rfl, show rden x 0 = 1 from if_pos rfl]
    refine awp_sx prog_ok hP hnt [(15, .bool true), (20, .bool true)] [] [] [1, 2, 4, 20] (by kernel_rfl) (G := fun K => ((↑(dig 0).length : Int) == (0 : Int)) = true ∧ true = true ∧ K (St.mk [(1, V.d (du (dig 0))), (2, V.ptr 0 0), (4, V.ptr 1 0), (20, V.d (D.bool true))] [(0, some (Blk.mk [D.bool s, du l] true)), (1, some (Blk.mk [D.bool false, D.lst 0 [], D.lst 0 []] true))] 13)) (fun K => by kernel_rfl) ?_
    refine ⟨by rw [dig_zero]; rfl, rfl, awp_cond (b := true) rfl (fun _ => ?_) nofun⟩
    have hrt : rt 0 1 = [.bool false, .lst 0 [], du (dig 1)] := by unfold rt; rw [show (0 : Int).natAbs = 0 from rfl, dig_zero]; rfl
    rw [hrt]
    refine awp_sx prog_ok hP hnt [] [.val (.d (du (dig 1)))] [] [4] (by kernel_rfl) (G := fun K => Fn Try.prog 183 [] [] (V.d (du (dig 1))) [] ∧ 3 ≤ [D.bool false, D.lst 0 [], D.lst 0 []].length ∧ K (St.mk [(4, V.ptr 1 0)] [(0, some (Blk.mk [D.bool s, du l] true)), (1, some (Blk.mk [D.bool false, D.lst 0 [], du (dig 1)] true))] 16)) (fun K => by kernel_rfl) ?_
    exact ⟨ho, by simp, awp_ret ⟨.inl rfl, retC (l := true) rfl rfl rfl rfl⟩⟩
  have hdl : 0 < (dig d).length := by have := mt dig_len0.1 hd0; omega
  have hbe : (((dig d).length : Int) == 0) = false := by rw [beq_eq_false_iff_ne]; omega
  have hrn : rnum x d = x.tdiv (Nat.gcd x.natAbs d) := if_neg hd0
  have hrd : rden x d = d / Nat.gcd x.natAbs d := if_neg hd0
  by_cases hx0 : x = 0
  · have e1 : rnum x d = 0 := by rw [hrn, hx0]; simp
    have e2 : rden x d = 1 := by rw [hrd, hx0, show (0 : Int).natAbs = 0 from rfl, Nat.gcd_zero_left, Nat.div_self (by omega)]
    rw [e1, e2]
    have hrt : rt 0 1 = [.bool false, .lst 0 [], du (dig 1)] := by unfold rt; rw [show (0 : Int).natAbs = 0 from rfl, dig_zero]; rfl
    rw [hrt]
    rw [decide_eq_true (by omega)] at hz
    refine awp_sx prog_ok hP hnt [(15, .bool false), (20, .bool true)] [.val (.d (.bool true))] [some [du l]] [1, 2, 4, 20] (by kernel_rfl) (G := fun K => ((↑(dig d).length : Int) == (0 : Int)) = false ∧ [D.bool s, du l][1]? = some (du l) ∧ Fn Try.prog 187 [V.d (du l)] [] (V.d (D.bool true)) [] ∧ true = true ∧ K (St.mk [(1, V.d (du (dig d))), (2, V.ptr 0 0), (4, V.ptr 1 0), (20, V.d (D.bool true))] [(0, some (Blk.mk [D.bool s, du l] true)), (1, some (Blk.mk [D.bool false, D.lst 0 [], D.lst 0 []] true))] 13)) (fun K => by kernel_rfl) ?_
    refine ⟨hbe, rfl, hz, rfl, awp_cond (b := true) rfl (fun _ => ?_) nofun⟩
    refine awp_sx prog_ok hP hnt [] [.val (.d (du (dig 1)))] [] [4] (by kernel_rfl) (G := fun K => Fn Try.prog 183 [] [] (V.d (du (dig 1))) [] ∧ 3 ≤ [D.bool false, D.lst 0 [], D.lst 0 []].length ∧ K (St.mk [(4, V.ptr 1 0)] [(0, some (Blk.mk [D.bool s, du l] true)), (1, some (Blk.mk [D.bool false, D.lst 0 [], du (dig 1)] true))] 16)) (fun K => by kernel_rfl) ?_
    exact ⟨ho, by simp, awp_ret ⟨.inl rfl, retC (l := true) rfl rfl rfl rfl⟩⟩
  rw [decide_eq_false (by omega)] at hz
  refine awp_sx prog_ok hP hnt [(15, .bool false), (20, .bool false)] [.val (.d (.bool false))] [some [du l]] [1, 2, 4, 20] (by kernel_rfl) (G := fun K => ((↑(dig d).length : Int) == (0 : Int)) = false ∧ [D.bool s, du l][1]? = some (du l) ∧ Fn Try.prog 187 [V.d (du l)] [] (V.d (D.bool false)) [] ∧ false = false ∧ K (St.mk [(1, V.d (du (dig d))), (2, V.ptr 0 0), (4, V.ptr 1 0), (20, V.d (D.bool false))] [(0, some (Blk.mk [D.bool s, du l] true)), (1, some (Blk.mk [D.bool false, D.lst 0 [], D.lst 0 []] true))] 13)) (fun K => by kernel_rfl) ?_
  refine ⟨hbe, rfl, hz, rfl, awp_cond (b := false) rfl nofun fun _ => awp_skip (hK _ ?_)⟩
  refine awp_seq_k fun K2 hK2 => ?_
  refine awp_sx prog_ok hP hnt [] [.val (.d (.bool (decide (d = 1))))] [] [1, 2, 4, 24] (by kernel_rfl) (G := fun K => Fn Try.prog 231 [V.d (du (dig d))] [] (V.d (D.bool (decide (d = 1)))) [] ∧ K (St.mk [(1, V.d (du (dig d))), (2, V.ptr 0 0), (4, V.ptr 1 0), (24, V.d (D.bool (decide (d = 1))))] [(0, some (Blk.mk [D.bool s, du l] true)), (1, some (Blk.mk [D.bool false, D.lst 0 [], D.lst 0 []] true))] 15)) (fun K => by kernel_rfl) ?_
  refine ⟨h1, awp_cond rfl (fun e => ?_) (fun e => awp_skip (hK2 _ ?_))⟩
  · have hd1 := of_decide_eq_true e
    rw [hrn, hrd, hd1, Nat.gcd_one_right, show x.tdiv ((1 : Nat) : Int) = x from Int.tdiv_one x, Nat.div_one]
    refine awp_sx prog_ok hP hnt [] [.val (.agg (iz x))] [some (ic s l)] [4] (by kernel_rfl) (G := fun K => ([D.bool s, du l][0]? = some (D.bool s) ∧ [D.bool s, du l][1]? = some (du l)) ∧ Fn Try.prog 165 [V.agg [D.bool s, du l]] [] (V.agg [D.bool (decide (x < (0 : Int))), du (dig x.natAbs)]) [] ∧ 0 + (setCells (setCells (TI.mk (Kind.struct [(0, 2), (2, 1)]) 3 56 [D.bool false, D.lst 0 [], D.lst 0 []]).zero 0 (iz x)) 2 [du (dig 1)]).length ≤ [D.bool false, D.lst 0 [], D.lst 0 []].length ∧ K (St.mk [(4, V.ptr 1 0)] [(0, some (Blk.mk [D.bool s, du l] true)), (1, some (Blk.mk [D.bool (decide (x < (0 : Int))), du (dig x.natAbs), du (dig 1)] true))] 20)) (fun K => by kernel_rfl) ?_
    exact ⟨⟨rfl, rfl⟩, hin, by simp [setCells_len], awp_ret ⟨.inl rfl, retC (l := true) rfl rfl rfl rfl⟩⟩
  have hd1 := of_decide_eq_false e
  have hfr := from_fn false (dig d) (by omega) (dig_lt d)
  rw [show ival false (dig d) = (d : Int) from by unfold ival sgn; rw [val_dig]; rfl] at hfr
  refine awp_sx prog_ok hP hnt [] [.val (.agg (iz (d : Nat)))] [] [1, 2, 4, 5] (by kernel_rfl) (G := fun K => Fn Try.prog 182 [V.d (D.bool false), V.d (du (dig d))] [] (V.agg [D.bool (decide ((↑d : Int) < (0 : Int))), du (dig (↑d : Int).natAbs)]) [] ∧ 0 + (iz (↑d : Int)).length ≤ (TI.mk (Kind.struct [(0, 1), (1, 1)]) 2 32 [D.bool false, D.lst 0 []]).zero.length ∧ K (St.mk [(1, V.d (du (dig d))), (2, V.ptr 0 0), (4, V.ptr 1 0), (5, V.ptr 17 0)] [(0, some (Blk.mk [D.bool s, du l] true)), (1, some (Blk.mk [D.bool false, D.lst 0 [], D.lst 0 []] true)), (17, some (Blk.mk [D.bool (decide ((↑d : Int) < (0 : Int))), du (dig (↑d : Int).natAbs)] true))] 19)) (fun K => by kernel_rfl) ?_
  refine ⟨hfr, by simp [iz], ?_⟩
  obtain ⟨g, hg⟩ : ∃ g, g = Nat.gcd x.natAbs d := ⟨_, rfl⟩
  have hgx : g ∣ x.natAbs := hg ▸ Nat.gcd_dvd_left _ _
  have hgd : g ∣ d := hg ▸ Nat.gcd_dvd_right _ _
  have hg0 : 0 < g := Nat.pos_of_ne_zero fun h => by rw [h] at hgd; exact hd0 (Nat.eq_zero_of_zero_dvd hgd)
  have hgle : g ≤ d := Nat.le_of_dvd (by omega) hgd
  have hgl : (dig g).length ≤ 2 ^ 38 := Nat.le_trans (dig_len (k := (dig d).length) (by have := val_lt (dig_lt d); rw [val_dig] at this; omega)) (by omega)
  have hgc := igcd_fn s false l (dig d) hl1 (by omega) dl (dig_lt d)
  rw [val_dig, hxn, ← hg, ← iz_nat'] at hgc
  rw [← hg] at hrn hrd
  have hg1 := isOne_fn g (by omega)
  refine awp_sx prog_ok hP hnt [] [.val (.agg (iz (g : Nat)))] [some (ic s l), some (iz (d : Nat))] [1, 2, 4, 5, 6] (by kernel_rfl) (G := fun K => ([D.bool s, du l][0]? = some (D.bool s) ∧ [D.bool s, du l][1]? = some (du l)) ∧ ([D.bool (decide ((↑d : Int) < (0 : Int))), du (dig (↑d : Int).natAbs)][0]? = some (D.bool (decide ((↑d : Int) < (0 : Int)))) ∧ [D.bool (decide ((↑d : Int) < (0 : Int))), du (dig (↑d : Int).natAbs)][1]? = some (du (dig (↑d : Int).natAbs))) ∧ Fn Try.prog 202 [V.agg [D.bool s, du l], V.agg [D.bool (decide ((↑d : Int) < (0 : Int))), du (dig (↑d : Int).natAbs)]] [] (V.agg [D.bool (decide ((↑g : Int) < (0 : Int))), du (dig (↑g : Int).natAbs)]) [] ∧ 0 + (iz (↑g : Int)).length ≤ (TI.mk (Kind.struct [(0, 1), (1, 1)]) 2 32 [D.bool false, D.lst 0 []]).zero.length ∧ K (St.mk [(1, V.d (du (dig d))), (2, V.ptr 0 0), (4, V.ptr 1 0), (5, V.ptr 17 0), (6, V.ptr 22 0)] [(0, some (Blk.mk [D.bool s, du l] true)), (1, some (Blk.mk [D.bool false, D.lst 0 [], D.lst 0 []] true)), (17, some (Blk.mk [D.bool (decide ((↑d : Int) < (0 : Int))), du (dig (↑d : Int).natAbs)] true)), (22, some (Blk.mk [D.bool (decide ((↑g : Int) < (0 : Int))), du (dig (↑g : Int).natAbs)] true))] 24)) (fun K => by kernel_rfl) ?_
  refine ⟨⟨rfl, rfl⟩, ⟨rfl, rfl⟩, hgc, by simp [iz], ?_⟩
  refine awp_seq_k fun K3 hK3 => ?_
  refine awp_sx prog_ok hP hnt [] [.val (.d (.bool (decide (g = 1))))] [some [du (dig g)]] [1, 2, 4, 5, 6, 36] (by kernel_rfl) (G := fun K => [D.bool (decide ((↑g : Int) < (0 : Int))), du (dig (↑g : Int).natAbs)][1]? = some (du (dig g)) ∧ Fn Try.prog 231 [V.d (du (dig g))] [] (V.d (D.bool (decide (g = 1)))) [] ∧ K (St.mk [(1, V.d (du (dig d))), (2, V.ptr 0 0), (4, V.ptr 1 0), (5, V.ptr 17 0), (6, V.ptr 22 0), (36, V.d (D.bool (decide (g = 1))))] [(0, some (Blk.mk [D.bool s, du l] true)), (1, some (Blk.mk [D.bool false, D.lst 0 [], D.lst 0 []] true)), (17, some (Blk.mk [D.bool (decide ((↑d : Int) < (0 : Int))), du (dig (↑d : Int).natAbs)] true)), (22, some (Blk.mk [D.bool (decide ((↑g : Int) < (0 : Int))), du (dig (↑g : Int).natAbs)] true))] 27)) (fun K => by kernel_rfl) ?_
  refine ⟨rfl, hg1, awp_cond rfl (fun e2 => ?_) (fun e2 => awp_skip (hK3 _ ?_))⟩
  · have hgg := of_decide_eq_true e2
    rw [hrn, hrd, hgg, show x.tdiv ((1 : Nat) : Int) = x from Int.tdiv_one x, Nat.div_one]
    refine awp_sx prog_ok hP hnt [] [.val (.agg (iz x))] [some (ic s l)] [4] (by kernel_rfl) (G := fun K => ([D.bool s, du l][0]? = some (D.bool s) ∧ [D.bool s, du l][1]? = some (du l)) ∧ Fn Try.prog 165 [V.agg [D.bool s, du l]] [] (V.agg [D.bool (decide (x < (0 : Int))), du (dig x.natAbs)]) [] ∧ 0 + (setCells (setCells (TI.mk (Kind.struct [(0, 2), (2, 1)]) 3 56 [D.bool false, D.lst 0 [], D.lst 0 []]).zero 0 (iz x)) 2 [du (dig d)]).length ≤ [D.bool false, D.lst 0 [], D.lst 0 []].length ∧ K (St.mk [(4, V.ptr 1 0)] [(0, some (Blk.mk [D.bool s, du l] true)), (1, some (Blk.mk [D.bool (decide (x < (0 : Int))), du (dig x.natAbs), du (dig d)] true)), (17, some (Blk.mk [D.bool (decide ((↑d : Int) < (0 : Int))), du (dig (↑d : Int).natAbs)] true)), (22, some (Blk.mk [D.bool (decide ((↑1 : Int) < (0 : Int))), du (dig (↑1 : Int).natAbs)] true))] 32)) (fun K => by kernel_rfl) ?_
    exact ⟨⟨rfl, rfl⟩, hin, by simp [setCells_len], awp_ret ⟨.inl rfl, retC (l := true) rfl rfl rfl rfl⟩⟩
  have x1 := exact_fn s false l (dig g) hl1 hgl dl (dig_lt g) (by rw [val_dig]; omega)
  have x2 := exact_fn false false (dig d) (dig g) (by omega) hgl (dig_lt d) (dig_lt g) (by rw [val_dig]; omega)
  rw [show ival false (dig g) = (g : Int) from by unfold ival sgn; rw [val_dig]; rfl, ← iz_nat'] at x1 x2
  rw [show ival false (dig d) = (d : Int) from by unfold ival sgn; rw [val_dig]; rfl, ← iz_nat', if_pos (Int.natCast_dvd_natCast.2 hgd), if_pos (Int.natCast_dvd_natCast.2 hgd), show ((d : Int)).tdiv g = ((d / g : Nat) : Int) from rfl] at x2
  have hgx2 : (g : Int) ∣ x := Int.ofNat_dvd_left.2 hgx
  rw [← hx, if_pos hgx2, if_pos hgx2, ← hrn] at x1
  rw [← hrd] at x2
  refine awp_sx prog_ok hP hnt [] [.val (.tup [.agg (iz (rnum x d)), .d (.int .i64 0)])] [some (ic s l), some (iz (g : Nat))] [4, 5, 6, 7] (by kernel_rfl) (G := fun K => ([D.bool s, du l][0]? = some (D.bool s) ∧ [D.bool s, du l][1]? = some (du l)) ∧ ([D.bool (decide ((↑g : Int) < (0 : Int))), du (dig (↑g : Int).natAbs)][0]? = some (D.bool (decide ((↑g : Int) < (0 : Int)))) ∧ [D.bool (decide ((↑g : Int) < (0 : Int))), du (dig (↑g : Int).natAbs)][1]? = some (du (dig (↑g : Int).natAbs))) ∧ Fn Try.prog 204 [V.agg [D.bool s, du l], V.agg [D.bool (decide ((↑g : Int) < (0 : Int))), du (dig (↑g : Int).natAbs)]] [] (V.tup [V.agg [D.bool (decide (rnum x d < (0 : Int))), du (dig (rnum x d).natAbs)], V.d (D.int IntKind.i64 (0 : Int))]) [] ∧ 0 + (iz (rnum x d)).length ≤ (TI.mk (Kind.struct [(0, 1), (1, 1)]) 2 32 [D.bool false, D.lst 0 []]).zero.length ∧ K (St.mk [(4, V.ptr 1 0), (5, V.ptr 17 0), (6, V.ptr 22 0), (7, V.ptr 33 0)] [(0, some (Blk.mk [D.bool s, du l] true)), (1, some (Blk.mk [D.bool false, D.lst 0 [], D.lst 0 []] true)), (17, some (Blk.mk [D.bool (decide ((↑d : Int) < (0 : Int))), du (dig (↑d : Int).natAbs)] true)), (22, some (Blk.mk [D.bool (decide ((↑g : Int) < (0 : Int))), du (dig (↑g : Int).natAbs)] true)), (33, some (Blk.mk [D.bool (decide (rnum x d < (0 : Int))), du (dig (rnum x d).natAbs)] true))] 36)) (fun K => by kernel_rfl) ?_
  refine ⟨⟨rfl, rfl⟩, ⟨rfl, rfl⟩, x1, by simp [iz], ?_⟩
  refine awp_sx prog_ok hP hnt [] [.val (.tup [.agg (iz (rden x d : Nat)), .d (.int .i64 0)])] [some (iz (d : Nat)), some (iz (g : Nat))] [4, 7, 9] (by kernel_rfl) (G := fun K => ([D.bool (decide ((↑d : Int) < (0 : Int))), du (dig (↑d : Int).natAbs)][0]? = some (D.bool (decide ((↑d : Int) < (0 : Int)))) ∧ [D.bool (decide ((↑d : Int) < (0 : Int))), du (dig (↑d : Int).natAbs)][1]? = some (du (dig (↑d : Int).natAbs))) ∧ ([D.bool (decide ((↑g : Int) < (0 : Int))), du (dig (↑g : Int).natAbs)][0]? = some (D.bool (decide ((↑g : Int) < (0 : Int)))) ∧ [D.bool (decide ((↑g : Int) < (0 : Int))), du (dig (↑g : Int).natAbs)][1]? = some (du (dig (↑g : Int).natAbs))) ∧ Fn Try.prog 204 [V.agg [D.bool (decide ((↑d : Int) < (0 : Int))), du (dig (↑d : Int).natAbs)], V.agg [D.bool (decide ((↑g : Int) < (0 : Int))), du (dig (↑g : Int).natAbs)]] [] (V.tup [V.agg [D.bool (decide ((↑(rden x d) : Int) < (0 : Int))), du (dig (↑(rden x d) : Int).natAbs)], V.d (D.int IntKind.i64 (0 : Int))]) [] ∧ 0 + (iz (↑(rden x d) : Int)).length ≤ (TI.mk (Kind.struct [(0, 1), (1, 1)]) 2 32 [D.bool false, D.lst 0 []]).zero.length ∧ K (St.mk [(4, V.ptr 1 0), (7, V.ptr 33 0), (9, V.ptr 42 0)] [(0, some (Blk.mk [D.bool s, du l] true)), (1, some (Blk.mk [D.bool false, D.lst 0 [], D.lst 0 []] true)), (17, some (Blk.mk [D.bool (decide ((↑d : Int) < (0 : Int))), du (dig (↑d : Int).natAbs)] true)), (22, some (Blk.mk [D.bool (decide ((↑g : Int) < (0 : Int))), du (dig (↑g : Int).natAbs)] true)), (33, some (Blk.mk [D.bool (decide (rnum x d < (0 : Int))), du (dig (rnum x d).natAbs)] true)), (42, some (Blk.mk [D.bool (decide ((↑(rden x d) : Int) < (0 : Int))), du (dig (↑(rden x d) : Int).natAbs)] true))] 45)) (fun K => by kernel_rfl) ?_
  refine ⟨⟨rfl, rfl⟩, ⟨rfl, rfl⟩, x2, by simp [iz], ?_⟩
  refine awp_sx prog_ok hP hnt [] [] [some (iz (rnum x d)), some [du (dig (rden x d))]] [4] (by kernel_rfl) (G := fun K => ([D.bool (decide (rnum x d < (0 : Int))), du (dig (rnum x d).natAbs)][0]? = some (D.bool (decide (rnum x d < (0 : Int)))) ∧ [D.bool (decide (rnum x d < (0 : Int))), du (dig (rnum x d).natAbs)][1]? = some (du (dig (rnum x d).natAbs))) ∧ [D.bool (decide ((↑(rden x d) : Int) < (0 : Int))), du (dig (↑(rden x d) : Int).natAbs)][1]? = some (du (dig (rden x d))) ∧ 0 + (setCells (setCells (TI.mk (Kind.struct [(0, 2), (2, 1)]) 3 56 [D.bool false, D.lst 0 [], D.lst 0 []]).zero 0 (iz (rnum x d))) 2 [du (dig (rden x d))]).length ≤ [D.bool false, D.lst 0 [], D.lst 0 []].length ∧ K (St.mk [(4, V.ptr 1 0)] [(0, some (Blk.mk [D.bool s, du l] true)), (1, some (Blk.mk [D.bool (decide (rnum x d < (0 : Int))), du (dig (rnum x d).natAbs), du (dig (rden x d))] true)), (17, some (Blk.mk [D.bool (decide ((↑d : Int) < (0 : Int))), du (dig (↑d : Int).natAbs)] true)), (22, some (Blk.mk [D.bool (decide ((↑g : Int) < (0 : Int))), du (dig (↑g : Int).natAbs)] true)), (33, some (Blk.mk [D.bool (decide (rnum x d < (0 : Int))), du (dig (rnum x d).natAbs)] true)), (42, some (Blk.mk [D.bool (decide ((↑(rden x d) : Int) < (0 : Int))), du (dig (↑(rden x d) : Int).natAbs)] true))] 50)) (fun K => by kernel_rfl) ?_
  exact ⟨⟨rfl, rfl⟩, rfl, by simp [setCells_len], awp_ret ⟨.inl rfl, retC (l := true) rfl rfl rfl rfl⟩⟩

theorem retCC {T : Tab} {c1 c2 t b1 b2 : Nat} {s : St} {cs1 cs2 : List D} {l1 l2 : Bool} (h1 : s.get c1 = .ptr b1 0) (h2 : s.blk b1 = some ⟨cs1, l1⟩) (h3 : s.get c2 = .ptr b2 0) (h4 : s.blk b2 = some ⟨cs2, l2⟩)
    (ha : Tab.agg T t = true) (hs1 : T.size t = cs1.length) (hs2 : T.size t = cs2.length) : RetOk T [.cell c1 t, .cell c2 t] (.tup [.agg cs1, .agg cs2]) [] s := by
  unfold RetOk evalRes
  rw [h1]
  simp only [h2, ha, if_true, evalRes, h3, h4]
  refine ⟨by omega, by omega, .inl ⟨?_, trivial⟩⟩
  rw [List.drop_zero, List.drop_zero, hs1, List.take_of_length_le (Nat.le_refl _), ← hs1, hs2, List.take_of_length_le (Nat.le_refl _)]
  rfl

/-- numerator and denominator -/
theorem parts_fn (x : Int) (q : Nat) (hx : (dig x.natAbs).length ≤ 2 ^ 39) (hq : (dig q).length ≤ 2 ^ 39) (h0 : q ≠ 0) : Fn Try.prog 184 [.agg (rt x q)] [] (.tup [.agg (iz x), .agg (iz (q : Nat))]) [] := by
  refine fn0 (nt := 14) (res := [.cell 2 46, .cell 3 46]) Try.func184 rfl (by decide) rfl rfl rfl rfl ?_
  intro Cx hP hnt hl
  have hz := isZero_fn (dig q) (by omega) (dig_lt q)
  rw [val_dig, decide_eq_false h0] at hz
  refine awp_sx prog_ok hP hnt [] [] [] [1, 2, 3] (by kernel_rfl) (G := fun K => K (St.mk [(1, V.ptr 0 0), (2, V.ptr 1 0), (3, V.ptr 2 0)] [(0, some (Blk.mk [D.bool (decide (x < (0 : Int))), du (dig x.natAbs), du (dig q)] true)), (1, some (Blk.mk [D.bool false, D.lst 0 []] true)), (2, some (Blk.mk [D.bool false, D.lst 0 []] true))] 3)) (fun K => by kernel_rfl) ?_
  refine awp_seq_k fun K hK => ?_
  refine awp_sx prog_ok hP hnt [] [.val (.d (.bool false))] [some [du (dig q)]] [1, 2, 3, 6] (by kernel_rfl) (G := fun K => [D.bool (decide (x < (0 : Int))), du (dig x.natAbs), du (dig q)][2]? = some (du (dig q)) ∧ Fn Try.prog 187 [V.d (du (dig q))] [] (V.d (D.bool false)) [] ∧ K (St.mk [(1, V.ptr 0 0), (2, V.ptr 1 0), (3, V.ptr 2 0), (6, V.d (D.bool false))] [(0, some (Blk.mk [D.bool (decide (x < (0 : Int))), du (dig x.natAbs), du (dig q)] true)), (1, some (Blk.mk [D.bool false, D.lst 0 []] true)), (2, some (Blk.mk [D.bool false, D.lst 0 []] true))] 6)) (fun K => by kernel_rfl) ?_
  refine ⟨rfl, hz, awp_cond (b := false) rfl nofun fun _ => awp_skip (hK _ ?_)⟩
  refine awp_sx prog_ok hP hnt [] [] [some (iz x), some [du (dig q)]] [2, 3] (by kernel_rfl) (G := fun K => ([D.bool (decide (x < (0 : Int))), du (dig x.natAbs), du (dig q)][0]? = some (D.bool (decide (x < (0 : Int)))) ∧ [D.bool (decide (x < (0 : Int))), du (dig x.natAbs), du (dig q)][1]? = some (du (dig x.natAbs))) ∧ [D.bool (decide (x < (0 : Int))), du (dig x.natAbs), du (dig q)][2]? = some (du (dig q)) ∧ 0 + (iz x).length ≤ [D.bool false, D.lst 0 []].length ∧ 0 + (setCells (TI.mk (Kind.struct [(0, 1), (1, 1)]) 2 32 [D.bool false, D.lst 0 []]).zero 1 [du (dig q)]).length ≤ [D.bool false, D.lst 0 []].length ∧ K (St.mk [(2, V.ptr 1 0), (3, V.ptr 2 0)] [(0, some (Blk.mk [D.bool (decide (x < (0 : Int))), du (dig x.natAbs), du (dig q)] true)), (1, some (Blk.mk [D.bool (decide (x < (0 : Int))), du (dig x.natAbs)] true)), (2, some (Blk.mk [D.bool false, du (dig q)] true))] 13)) (fun K => by kernel_rfl) ?_
  have hq2 : iz (q : Int) = [.bool false, du (dig q)] := by rw [iz_nat']; rfl
  rw [hq2]
  exact ⟨⟨rfl, rfl⟩, rfl, by simp [iz], by simp [setCells_len], awp_ret ⟨.inl rfl, retCC rfl rfl rfl rfl rfl rfl rfl⟩⟩
end Go.Abs

set_option linter.unusedVariables false
set_option linter.unusedSimpArgs false
namespace Go.Abs
open Go Go.Proofs Poly
set_option maxRecDepth 100000

noncomputable def cm (f : Poly) : Nat → Nat
  | 0 => 0
  | k + 1 => max (cm f k) (((f.c k).natAbs + f.lc.natAbs - 1) / f.lc.natAbs)
noncomputable def cauchy (f : Poly) : Nat := if f.sz < 2 then 0 else cm f (f.sz - 1) + 1

theorem iz_nat (n : Nat) : iz (n : Int) = ic false (dig n) := by rw [iz_ic, decide_eq_false (by omega)]; rfl
theorem ceil_eq {a b : Nat} (hb : 0 < b) : (if a % b = 0 then a / b else a / b + 1) = (a + b - 1) / b := by
  have h := Nat.div_add_mod a b
  have hm := Nat.mod_lt a hb
  obtain ⟨q, hq⟩ : ∃ q, q = a / b := ⟨_, rfl⟩
  obtain ⟨r, hr⟩ : ∃ r, r = a % b := ⟨_, rfl⟩
  rw [← hq, ← hr] at h
  rw [← hr] at hm
  rw [← hq, ← hr]
  split
  · rename_i h0
    rw [← h, h0, Nat.add_zero, show b * q + b - 1 = b * q + (b - 1) by omega, Nat.mul_add_div hb, Nat.div_eq_of_lt (by omega), Nat.add_zero]
  · rename_i h0
    rw [← h, show b * q + r + b - 1 = b * (q + 1) + (r - 1) by rw [Nat.mul_add]; omega, Nat.mul_add_div hb, Nat.div_eq_of_lt (by omega), Nat.add_zero]

theorem ceil_le {a b : Nat} (hb : 0 < b) : (a + b - 1) / b ≤ a := by
  rw [← ceil_eq hb]
  split
  · exact Nat.div_le_self _ _
  · rename_i h
    have hb2 : 2 ≤ b := by
      rcases Nat.lt_or_ge b 2 with h2 | h2
      · exfalso; apply h
        have : b = 1 := by omega
        subst this; exact Nat.mod_one _
      · exact h2
    have ha : 0 < a := Nat.pos_of_ne_zero fun h0 => h (by rw [h0, Nat.zero_mod])
    exact Nat.div_lt_self ha hb2
theorem cm_lt {f : Poly} {K : Nat} (h0 : f.lc ≠ 0) (h : ∀ k, (f.c k).natAbs < 2 ^ K) : ∀ k, cm f k < 2 ^ K
  | 0 => Nat.pow_pos (by omega)
  | k + 1 => by
    have h1 := cm_lt h0 h k
    have h2 := ceil_le (a := (f.c k).natAbs) (b := f.lc.natAbs) (by omega)
    have h3 := h k
    unfold cm
    omega

theorem cauchyP {i : Nat} {ps : List RI} (hi : i ≤ 12) (hp : W i ps) : Fn Try.prog 104 [.d (rp ps)] [] (.agg (iz (cauchy (pol ps) : Nat))) [] := by
  refine fn0 (nt := 54) (res := [.cell 2 46]) Try.func104 rfl (by decide) rfl rfl rfl rfl ?_
  intro Cx hP hnt hl
  have hn := normP hi hp
  obtain ⟨f, hf⟩ : ∃ f, f = pol ps := ⟨_, rfl⟩
  have hlv : Lv i f := hf ▸ hp.lv
  rw [← hf] at hn ⊢
  have hw := hlv.w
  have hdg := degP hi hw
  have hld := leadP hi hw
  rw [pol_cp] at hdg hld
  have h4 := lim4 hi
  have h2 := lim2 hi
  have hsz : f.sz ≤ 2 ^ 36 := by have := hlv.len; omega
  have hz0 := iOf_fn 0 (by decide) (by decide)
  have hz1 := iOf_fn 1 (by decide) (by decide)
  refine awp_sx prog_ok hP hnt [] [] [] [0, 2] (by kernel_rfl) (G := fun K => K (St.mk [(0, V.d (rp ps)), (2, V.ptr 0 0)] [(0, some (Blk.mk [D.bool false, D.lst 0 []] true))] 1)) (fun K => by kernel_rfl) ?_
  refine awp_sx prog_ok hP hnt [] [.val (.d (rp (cp f)))] [] [2, 3] (by kernel_rfl) (G := fun K => Fn Try.prog 63 [V.d (rp ps)] [] (V.d (rp (cp f))) [] ∧ K (St.mk [(2, V.ptr 0 0), (3, V.d (rp (cp f)))] [(0, some (Blk.mk [D.bool false, D.lst 0 []] true))] 4)) (fun K => by kernel_rfl) ?_
  refine ⟨hn, ?_⟩
  refine awp_sx prog_ok hP hnt [] [.val (.d (.int .i64 ((f.sz : Int) - 1)))] [] [2, 3, 4] (by kernel_rfl) (G := fun K => Fn Try.prog 68 [V.d (rp (cp f))] [] (V.d (D.int IntKind.i64 ((↑f.sz : Int) - (1 : Int)))) [] ∧ K (St.mk [(2, V.ptr 0 0), (3, V.d (rp (cp f))), (4, V.d (D.int IntKind.i64 ((↑f.sz : Int) - (1 : Int))))] [(0, some (Blk.mk [D.bool false, D.lst 0 []] true))] 7)) (fun K => by kernel_rfl) ?_
  refine ⟨hdg, ?_⟩
  refine awp_seq_k fun K hK => ?_
  refine awp_sx prog_ok hP hnt [] [] [] [2, 3, 4, 17] (by kernel_rfl) (G := fun K => K (St.mk [(2, V.ptr 0 0), (3, V.d (rp (cp f))), (4, V.d (D.int IntKind.i64 ((↑f.sz : Int) - (1 : Int)))), (17, V.d (D.bool (decide ((↑f.sz : Int) - (1 : Int) < (1 : Int)))))] [(0, some (Blk.mk [D.bool false, D.lst 0 []] true))] 9)) (fun K => by kernel_rfl) ?_
  refine awp_cond rfl (fun e => ?_) (fun e => awp_skip (hK _ ?_))
  · simp at e
    refine awp_sx prog_ok hP hnt [] [.val (.agg (iz 0))] [] [2] (by kernel_rfl) (G := fun K => Fn Try.prog 74 [V.d (D.int IntKind.i64 (0 : Int))] [] (V.agg [D.bool (decide ((0 : Int) < (0 : Int))), du (dig (Int.natAbs (0 : Int)))]) [] ∧ 2 ≤ [D.bool false, D.lst 0 []].length ∧ K (St.mk [(2, V.ptr 0 0)] [(0, some (Blk.mk [D.bool (decide ((0 : Int) < (0 : Int))), du (dig (Int.natAbs (0 : Int)))] true))] 11)) (fun K => by kernel_rfl) ?_
    have h0 : cauchy f = 0 := by unfold cauchy; rw [if_pos (by omega)]
    rw [h0]
    exact ⟨hz0, by simp [iz], awp_ret ⟨.inl rfl, retC (l := true) rfl rfl rfl rfl⟩⟩
  simp at e
  obtain ⟨n, hn0⟩ : ∃ n, n + 1 = f.sz := ⟨f.sz - 1, by omega⟩
  have hlc0 : f.lc ≠ 0 := lc_ne (fun h => by have := eq_zero.1 h; omega)
  have en : (f.sz : Int) - 1 = (n : Nat) := by omega
  rw [en]
  have hbit : ∀ z : Int, z.natAbs < 4294967296 ^ (40 * 4 ^ i) → (dig z.natAbs).length ≤ 2 ^ 37 := fun z hz => Nat.le_trans (dig_len hz) (by omega)
  have hlcb : f.lc.natAbs < 4294967296 ^ (40 * 4 ^ i) := hlv.ok _
  have hldl := hbit _ hlcb
  obtain ⟨L, hL⟩ : ∃ L, L = f.lc.natAbs := ⟨_, rfl⟩
  have hL0 : 0 < L := by omega
  have hab := iabs_fn (decide (f.lc < 0)) (dig f.lc.natAbs) (by omega) (dig_lt _)
  rw [ival_iz, ← iz_ic] at hab
  rw [← hL] at hab hldl hlcb
  refine awp_sx prog_ok hP hnt [] [.val (.agg (iz f.lc)), .val (.agg (iz (L : Nat)))] [] [2, 3, 4, 5] (by kernel_rfl) (G := fun K => Fn Try.prog 62 [V.d (rp (cp f))] [] (V.agg [D.bool (decide (f.lc < (0 : Int))), du (dig f.lc.natAbs)]) [] ∧ Fn Try.prog 168 [V.agg [D.bool (decide (f.lc < (0 : Int))), du (dig f.lc.natAbs)]] [] (V.agg [D.bool (decide ((↑L : Int) < (0 : Int))), du (dig (↑L : Int).natAbs)]) [] ∧ 0 + (iz (↑L : Int)).length ≤ (TI.mk (Kind.struct [(0, 1), (1, 1)]) 2 32 [D.bool false, D.lst 0 []]).zero.length ∧ K (St.mk [(2, V.ptr 0 0), (3, V.d (rp (cp f))), (4, V.d (D.int IntKind.i64 (↑n : Int))), (5, V.ptr 12 0)] [(0, some (Blk.mk [D.bool false, D.lst 0 []] true)), (12, some (Blk.mk [D.bool (decide ((↑L : Int) < (0 : Int))), du (dig (↑L : Int).natAbs)] true))] 14)) (fun K => by kernel_rfl) ?_
  refine ⟨hld, hab, by simp [iz], ?_⟩
  refine awp_sx prog_ok hP hnt [] [.val (.agg (iz 0))] [] [2, 3, 4, 5, 6] (by kernel_rfl) (G := fun K => Fn Try.prog 74 [V.d (D.int IntKind.i64 (0 : Int))] [] (V.agg [D.bool (decide ((0 : Int) < (0 : Int))), du (dig (Int.natAbs (0 : Int)))]) [] ∧ 2 ≤ (TI.mk (Kind.struct [(0, 1), (1, 1)]) 2 32 [D.bool false, D.lst 0 []]).zero.length ∧ K (St.mk [(2, V.ptr 0 0), (3, V.d (rp (cp f))), (4, V.d (D.int IntKind.i64 (↑n : Int))), (5, V.ptr 12 0), (6, V.ptr 15 0)] [(0, some (Blk.mk [D.bool false, D.lst 0 []] true)), (12, some (Blk.mk [D.bool (decide ((↑L : Int) < (0 : Int))), du (dig (↑L : Int).natAbs)] true)), (15, some (Blk.mk [D.bool (decide ((0 : Int) < (0 : Int))), du (dig (Int.natAbs (0 : Int)))] true))] 17)) (fun K => by kernel_rfl) ?_
  refine ⟨hz0, by simp [iz], ?_⟩
  have hcms : ∀ k, cm f k < 2 ^ (1280 * 4 ^ i) := cm_lt hlc0 hlv.bits
  have hcmz : ∀ k, ((cm f k : Nat) : Int).natAbs < 2 ^ (1280 * 4 ^ i) := fun k => by rw [Int.natAbs_natCast]; exact hcms k
  have hlb := lvbits hi
  obtain ⟨KB, hKB⟩ : ∃ KB, KB = 1280 * 4 ^ i := ⟨_, rfl⟩
  rw [← hKB] at hcms hcmz hlb
  have hone : (1 : Int).natAbs < 2 ^ 1 := by decide
  have hc : cauchy f = cm f n + 1 := by unfold cauchy; rw [if_neg (by omega), show f.sz - 1 = n by omega]
  have hps : ∀ k, k < n → ((cp f).take n)[k]? = some (riz (f.c k)) := fun k hk => by
    rw [List.getElem?_take, if_pos hk, cp_get f (by omega)]
  refine awp_cut (ι := Unit) (fun _ => ⟨[(2, .ptr 0 0), (6, .ptr 2 0)], [(0, some ⟨[.bool false, .lst 0 []], true⟩), (2, some ⟨iz (cm f n : Nat), true⟩)], 3⟩) (fun _ => True) ?_ ?_
  · refine awp_sx prog_ok hP hnt [] [] [] [2, 5, 6, 25, 26, 27] (by kernel_rfl) (G := fun K => ((0 : Int) ≤ (↑n : Int) ∧ (↑n : Int) ≤ (↑(cp f).length : Int)) ∧ K (St.mk [(2, V.ptr 0 0), (5, V.ptr 12 0), (6, V.ptr 15 0), (25, V.d (D.lst (↑n : Int).toNat (List.take ((↑n : Int).toNat * 2) (rc (cp f))))), (26, V.d (D.int IntKind.i64 (↑(↑n : Int).toNat : Int))), (27, V.d (D.int IntKind.i64 (0 : Int)))] [(0, some (Blk.mk [D.bool false, D.lst 0 []] true)), (12, some (Blk.mk [D.bool (decide ((↑L : Int) < (0 : Int))), du (dig (↑L : Int).natAbs)] true)), (15, some (Blk.mk [D.bool (decide ((0 : Int) < (0 : Int))), du (dig (Int.natAbs (0 : Int)))] true))] 22)) (fun K => by kernel_rfl) ?_
    refine ⟨⟨by omega, by simp; omega⟩, ?_⟩
    refine awp_block ?_
    refine awp_loop (ι := Nat) (fun k => ⟨[(2, .ptr 0 0), (5, .ptr 1 0), (6, .ptr 2 0), (25, .d (.lst n (rc ((cp f).take n)))), (26, .d (.int .i64 n)), (27, .d (.int .i64 k))], [(0, some ⟨[.bool false, .lst 0 []], true⟩), (1, some ⟨iz (L : Nat), true⟩), (2, some ⟨iz (cm f k : Nat), true⟩)], 3⟩)
      (fun k => k ≤ n) (fun k => n - k) 0 [(0, 0), (1, 12), (2, 15)] (by omega) ?_ ?_
    · rw [Int.toNat_natCast, rc_take]
      (constructor <;> simp [hl, envOk, memOk, conv, St.get, St.blk, iz, cm])
    intro k hk
    refine awp_sx prog_ok hP hnt [] [] [] [2, 5, 6, 25, 26, 27, 28] (by kernel_rfl) (G := fun K => K (St.mk [(2, V.ptr 0 0), (5, V.ptr 1 0), (6, V.ptr 2 0), (25, V.d (D.lst n (rc (List.take n (cp f))))), (26, V.d (D.int IntKind.i64 (↑n : Int))), (27, V.d (D.int IntKind.i64 (↑k : Int))), (28, V.d (D.bool (decide ((↑k : Int) < (↑n : Int)))))] [(0, some (Blk.mk [D.bool false, D.lst 0 []] true)), (1, some (Blk.mk [D.bool (decide ((↑L : Int) < (0 : Int))), du (dig (↑L : Int).natAbs)] true)), (2, some (Blk.mk [D.bool (decide ((↑(cm f k) : Int) < (0 : Int))), du (dig (↑(cm f k) : Int).natAbs)] true))] 4)) (fun K => by kernel_rfl) ?_
    refine awp_seq_k fun K1 hK1 => ?_
    refine awp_cond rfl (fun e => awp_skip (hK1 _ ?_)) (fun e => awp_exit ⟨(), [(0, 0), (2, 2)], trivial, ?_⟩)
    · simp at e
      refine awp_seq_k fun K2 hK2 => ?_
      refine awp_block ?_
      have hk1 := hps k e
      refine awp_sx prog_ok hP hnt [] [] [some (iz (f.c k))] [2, 5, 6, 8, 25, 26, 27] (by kernel_rfl) (G := fun K => ((0 : Int) ≤ (↑k : Int) ∧ (↑k : Int) < (↑n : Int) ∧ ((↑k : Int).toNat + 1) * 2 ≤ (rc (List.take n (cp f))).length) ∧ ((List.drop ((↑k : Int).toNat * 2) (rc (List.take n (cp f))))[0]? = some (D.bool (decide (f.c k < (0 : Int)))) ∧ (List.drop ((↑k : Int).toNat * 2) (rc (List.take n (cp f))))[1]? = some (du (dig (f.c k).natAbs))) ∧ 0 + (iz (f.c k)).length ≤ (TI.mk (Kind.struct [(0, 1), (1, 1)]) 2 32 [D.bool false, D.lst 0 []]).zero.length ∧ K (St.mk [(2, V.ptr 0 0), (5, V.ptr 1 0), (6, V.ptr 2 0), (25, V.d (D.lst n (rc (List.take n (cp f))))), (26, V.d (D.int IntKind.i64 (↑n : Int))), (27, V.d (D.int IntKind.i64 (↑k : Int))), (8, V.ptr 6 0)] [(0, some (Blk.mk [D.bool false, D.lst 0 []] true)), (1, some (Blk.mk [D.bool (decide ((↑L : Int) < (0 : Int))), du (dig (↑L : Int).natAbs)] true)), (2, some (Blk.mk [D.bool (decide ((↑(cm f k) : Int) < (0 : Int))), du (dig (↑(cm f k) : Int).natAbs)] true)), (6, some (Blk.mk [D.bool (decide (f.c k < (0 : Int))), du (dig (f.c k).natAbs)] true))] 8)) (fun K => by kernel_rfl) ?_
      have hdz := hbit _ (hlv.ok k)
      have hrd : (rc (List.take n (cp f))).drop ((k : Int).toNat * 2) = .bool (riz (f.c k)).1 :: du (riz (f.c k)).2 :: rc (((cp f).take n).drop (k + 1)) := rc_drop0 hk1
      have hpl : ((cp f).take n).length = n := by rw [List.length_take, cp_len]; omega
      rw [hrd]
      refine ⟨⟨by omega, by omega, by rw [rc_len, hpl]; omega⟩, ⟨rfl, rfl⟩, by simp [iz], ?_⟩
      obtain ⟨z, hz⟩ : ∃ z, z = (f.c k).natAbs := ⟨_, rfl⟩
      have habz := iabs_fn (decide (f.c k < 0)) (dig (f.c k).natAbs) (by omega) (dig_lt _)
      rw [ival_iz, ← iz_ic] at habz
      rw [← hz] at habz hdz
      have hfl := floor_fn (dig z) (dig L) (by omega) (by omega) (dig_lt _) (dig_lt _) (by rw [val_dig]; omega)
      rw [val_dig, val_dig, ← iz_nat, ← iz_nat] at hfl
      have hzb : z / L < 2 ^ KB := Nat.lt_of_le_of_lt (Nat.div_le_self _ _) (by rw [hz, hKB]; exact hlv.bits k)
      obtain ⟨Q, hQ⟩ : ∃ Q, Q = z / L := ⟨_, rfl⟩
      obtain ⟨R, hR⟩ : ∃ R, R = z % L := ⟨_, rfl⟩
      have hceil : (if R = 0 then Q else Q + 1) = (z + L - 1) / L := by rw [hQ, hR]; exact ceil_eq hL0
      have hRL : R < L := by rw [hR]; exact Nat.mod_lt _ hL0
      rw [← hQ, ← hR] at hfl
      rw [← hQ] at hzb
      have hsg := sign_fn false (dig R) (by have := dig_len (n := R) (k := 40 * 4 ^ i) (by omega); omega) (dig_lt _)
      rw [show ival false (dig R) = (R : Int) from by unfold ival sgn; rw [val_dig]; rfl, ← iz_nat] at hsg
      have hcml := ceil_le (a := z) (b := L) hL0
      have hzl : z < 2 ^ KB := by rw [hz, hKB]; exact hlv.bits k
      refine awp_sx prog_ok hP hnt [] [.val (.agg (iz (z : Nat))), .val (.tup [.agg (iz (Q : Nat)), .agg (iz (R : Nat)), .d (.int .i64 0)])] [some (iz (f.c k)), some (iz (L : Nat))] [2, 5, 6, 9, 10, 25, 26, 27] (by kernel_rfl) (G := fun K => ([D.bool (decide (f.c k < (0 : Int))), du (dig (f.c k).natAbs)][0]? = some (D.bool (decide (f.c k < (0 : Int)))) ∧ [D.bool (decide (f.c k < (0 : Int))), du (dig (f.c k).natAbs)][1]? = some (du (dig (f.c k).natAbs))) ∧ Fn Try.prog 168 [V.agg [D.bool (decide (f.c k < (0 : Int))), du (dig (f.c k).natAbs)]] [] (V.agg [D.bool (decide ((↑z : Int) < (0 : Int))), du (dig (↑z : Int).natAbs)]) [] ∧ ([D.bool (decide ((↑L : Int) < (0 : Int))), du (dig (↑L : Int).natAbs)][0]? = some (D.bool (decide ((↑L : Int) < (0 : Int)))) ∧ [D.bool (decide ((↑L : Int) < (0 : Int))), du (dig (↑L : Int).natAbs)][1]? = some (du (dig (↑L : Int).natAbs))) ∧ Fn Try.prog 189 [V.agg [D.bool (decide ((↑z : Int) < (0 : Int))), du (dig (↑z : Int).natAbs)], V.agg [D.bool (decide ((↑L : Int) < (0 : Int))), du (dig (↑L : Int).natAbs)]] [] (V.tup [V.agg [D.bool (decide ((↑Q : Int) < (0 : Int))), du (dig (↑Q : Int).natAbs)], V.agg [D.bool (decide ((↑R : Int) < (0 : Int))), du (dig (↑R : Int).natAbs)], V.d (D.int IntKind.i64 (0 : Int))]) [] ∧ 0 + (iz (↑Q : Int)).length ≤ (TI.mk (Kind.struct [(0, 1), (1, 1)]) 2 32 [D.bool false, D.lst 0 []]).zero.length ∧ 0 + (iz (↑R : Int)).length ≤ (TI.mk (Kind.struct [(0, 1), (1, 1)]) 2 32 [D.bool false, D.lst 0 []]).zero.length ∧ K (St.mk [(2, V.ptr 0 0), (5, V.ptr 1 0), (6, V.ptr 2 0), (25, V.d (D.lst n (rc (List.take n (cp f))))), (26, V.d (D.int IntKind.i64 (↑n : Int))), (27, V.d (D.int IntKind.i64 (↑k : Int))), (9, V.ptr 16 0), (10, V.ptr 17 0)] [(0, some (Blk.mk [D.bool false, D.lst 0 []] true)), (1, some (Blk.mk [D.bool (decide ((↑L : Int) < (0 : Int))), du (dig (↑L : Int).natAbs)] true)), (2, some (Blk.mk [D.bool (decide ((↑(cm f k) : Int) < (0 : Int))), du (dig (↑(cm f k) : Int).natAbs)] true)), (6, some (Blk.mk [D.bool (decide (f.c k < (0 : Int))), du (dig (f.c k).natAbs)] true)), (16, some (Blk.mk [D.bool (decide ((↑Q : Int) < (0 : Int))), du (dig (↑Q : Int).natAbs)] true)), (17, some (Blk.mk [D.bool (decide ((↑R : Int) < (0 : Int))), du (dig (↑R : Int).natAbs)] true))] 21)) (fun K => by kernel_rfl) ?_
      refine ⟨⟨rfl, rfl⟩, habz, ⟨rfl, rfl⟩, hfl, by simp [iz], by simp [iz], ?_⟩
      obtain ⟨c, hc'⟩ : ∃ c, c = (z + L - 1) / L := ⟨_, rfl⟩
      rw [← hc'] at hceil hcml
      refine awp_cut (ι := Unit) (fun _ => ⟨[(2, .ptr 0 0), (5, .ptr 1 0), (6, .ptr 2 0), (9, .ptr 3 0), (25, .d (.lst n (rc ((cp f).take n)))), (26, .d (.int .i64 n)), (27, .d (.int .i64 k))], [(0, some ⟨[.bool false, .lst 0 []], true⟩), (1, some ⟨iz (L : Nat), true⟩), (2, some ⟨iz (cm f k : Nat), true⟩), (3, some ⟨iz (c : Nat), true⟩)], 4⟩) (fun _ => True) ?_ ?_
      · refine awp_sx prog_ok hP hnt [] [.val (.d (.int .i64 (R : Int).sign))] [some (iz (R : Nat))] [2, 5, 6, 9, 25, 26, 27, 41] (by kernel_rfl) (G := fun K => ([D.bool (decide ((↑R : Int) < (0 : Int))), du (dig (↑R : Int).natAbs)][0]? = some (D.bool (decide ((↑R : Int) < (0 : Int)))) ∧ [D.bool (decide ((↑R : Int) < (0 : Int))), du (dig (↑R : Int).natAbs)][1]? = some (du (dig (↑R : Int).natAbs))) ∧ Fn Try.prog 102 [V.agg [D.bool (decide ((↑R : Int) < (0 : Int))), du (dig (↑R : Int).natAbs)]] [] (V.d (D.int IntKind.i64 (↑R : Int).sign)) [] ∧ K (St.mk [(2, V.ptr 0 0), (5, V.ptr 1 0), (6, V.ptr 2 0), (25, V.d (D.lst n (rc (List.take n (cp f))))), (26, V.d (D.int IntKind.i64 (↑n : Int))), (27, V.d (D.int IntKind.i64 (↑k : Int))), (9, V.ptr 16 0), (41, V.d (D.bool ((↑R : Int).sign != (0 : Int))))] [(0, some (Blk.mk [D.bool false, D.lst 0 []] true)), (1, some (Blk.mk [D.bool (decide ((↑L : Int) < (0 : Int))), du (dig (↑L : Int).natAbs)] true)), (2, some (Blk.mk [D.bool (decide ((↑(cm f k) : Int) < (0 : Int))), du (dig (↑(cm f k) : Int).natAbs)] true)), (6, some (Blk.mk [D.bool (decide (f.c k < (0 : Int))), du (dig (f.c k).natAbs)] true)), (16, some (Blk.mk [D.bool (decide ((↑Q : Int) < (0 : Int))), du (dig (↑Q : Int).natAbs)] true)), (17, some (Blk.mk [D.bool (decide ((↑R : Int) < (0 : Int))), du (dig (↑R : Int).natAbs)] true))] 24)) (fun K => by kernel_rfl) ?_
        refine ⟨⟨rfl, rfl⟩, hsg, ?_⟩
        refine awp_cond rfl (fun e2 => ?_) (fun e2 => awp_skip ⟨(), [(0, 0), (1, 1), (2, 2), (3, 16)], trivial, ?_⟩)
        · simp at e2
          rw [if_neg (by omega)] at hceil
          rw [← hceil]
          have hadd := addI (x := (Q : Int)) (by rw [Int.natAbs_natCast]; exact hzb) hone (by omega) (by omega)
          refine awp_x prog_ok hP hnt [] [.val (.agg (iz 1)), .val (.agg (iz (Q + 1 : Nat)))] [some (iz (Q : Nat))] [2, 5, 6, 9, 25, 26, 27] (by kernel_rfl) (G := fun K => ([D.bool (decide ((↑Q : Int) < (0 : Int))), du (dig (↑Q : Int).natAbs)][0]? = some (D.bool (decide ((↑Q : Int) < (0 : Int)))) ∧ [D.bool (decide ((↑Q : Int) < (0 : Int))), du (dig (↑Q : Int).natAbs)][1]? = some (du (dig (↑Q : Int).natAbs))) ∧ Fn Try.prog 74 [V.d (D.int IntKind.i64 (1 : Int))] [] (V.agg [D.bool (decide ((1 : Int) < (0 : Int))), du (dig (Int.natAbs (1 : Int)))]) [] ∧ Fn Try.prog 96 [V.agg [D.bool (decide ((↑Q : Int) < (0 : Int))), du (dig (↑Q : Int).natAbs)], V.agg [D.bool (decide ((1 : Int) < (0 : Int))), du (dig (Int.natAbs (1 : Int)))]] [] (V.agg [D.bool (decide ((↑(Q + 1) : Int) < (0 : Int))), du (dig (↑(Q + 1) : Int).natAbs)]) [] ∧ 0 + (iz (↑(Q + 1) : Int)).length ≤ [D.bool (decide ((↑Q : Int) < (0 : Int))), du (dig (↑Q : Int).natAbs)].length ∧ K (St.mk [(2, V.ptr 0 0), (5, V.ptr 1 0), (6, V.ptr 2 0), (25, V.d (D.lst n (rc (List.take n (cp f))))), (26, V.d (D.int IntKind.i64 (↑n : Int))), (27, V.d (D.int IntKind.i64 (↑k : Int))), (9, V.ptr 16 0)] [(0, some (Blk.mk [D.bool false, D.lst 0 []] true)), (1, some (Blk.mk [D.bool (decide ((↑L : Int) < (0 : Int))), du (dig (↑L : Int).natAbs)] true)), (2, some (Blk.mk [D.bool (decide ((↑(cm f k) : Int) < (0 : Int))), du (dig (↑(cm f k) : Int).natAbs)] true)), (6, some (Blk.mk [D.bool (decide (f.c k < (0 : Int))), du (dig (f.c k).natAbs)] true)), (16, some (Blk.mk [D.bool (decide ((↑(Q + 1) : Int) < (0 : Int))), du (dig (↑(Q + 1) : Int).natAbs)] true)), (17, some (Blk.mk [D.bool (decide ((↑R : Int) < (0 : Int))), du (dig (↑R : Int).natAbs)] true))] 28)) (fun K => by kernel_rfl) ?_
          refine ⟨⟨rfl, rfl⟩, hz1, hadd, by simp [iz], (), [(0, 0), (1, 1), (2, 2), (3, 16)], trivial, ?_⟩
          (constructor <;> simp [hl, envOk, memOk, conv, St.get, St.blk, iz])
        · simp at e2
          rw [if_pos (by omega)] at hceil
          rw [← hceil]
          (constructor <;> simp [hl, envOk, memOk, conv, St.get, St.blk, iz])
      intro _ _
      have hdl : ∀ y : Nat, y < 2 ^ KB → (dig y).length ≤ 2 ^ 36 := fun y hy => by
        refine Nat.le_trans (dig_len (k := KB) (Nat.lt_of_lt_of_le hy ?_)) (by omega)
        rw [show (4294967296 : Nat) = 2 ^ 32 from rfl, ← Nat.pow_mul]
        exact pw (by omega)
      have hcmp := icmp_fn false false (dig c) (dig (cm f k)) (by have := hdl c (by omega); omega) (by have := hdl _ (hcms k); omega) (dig_lt _) (dig_lt _)
      rw [show ival false (dig c) = (c : Int) from by unfold ival sgn; rw [val_dig]; rfl, show ival false (dig (cm f k)) = (cm f k : Int) from by unfold ival sgn; rw [val_dig]; rfl, ← iz_nat, ← iz_nat] at hcmp
      have hmx : cm f (k + 1) = max (cm f k) c := by rw [cm, hc', hz, hL]
      refine awp_sx prog_ok hP hnt [] [.val (.d (.int .i64 (cmpZ c (cm f k))))] [some (iz (c : Nat)), some (iz (cm f k : Nat))] [2, 5, 6, 9, 25, 26, 27, 48] (by kernel_rfl) (G := fun K => ((iz (↑c : Int))[0]? = some (D.bool (decide ((↑c : Int) < (0 : Int)))) ∧ (iz (↑c : Int))[1]? = some (du (dig (↑c : Int).natAbs))) ∧ ((iz (↑(cm f k) : Int))[0]? = some (D.bool (decide ((↑(cm f k) : Int) < (0 : Int)))) ∧ (iz (↑(cm f k) : Int))[1]? = some (du (dig (↑(cm f k) : Int).natAbs))) ∧ Fn Try.prog 143 [V.agg [D.bool (decide ((↑c : Int) < (0 : Int))), du (dig (↑c : Int).natAbs)], V.agg [D.bool (decide ((↑(cm f k) : Int) < (0 : Int))), du (dig (↑(cm f k) : Int).natAbs)]] [] (V.d (D.int IntKind.i64 (cmpZ (↑c : Int) (↑(cm f k) : Int)))) [] ∧ K (St.mk [(2, V.ptr 0 0), (5, V.ptr 1 0), (6, V.ptr 2 0), (9, V.ptr 3 0), (25, V.d (D.lst n (rc (List.take n (cp f))))), (26, V.d (D.int IntKind.i64 (↑n : Int))), (27, V.d (D.int IntKind.i64 (↑k : Int))), (48, V.d (D.bool (decide (cmpZ (↑c : Int) (↑(cm f k) : Int) > (0 : Int)))))] [(0, some (Blk.mk [D.bool false, D.lst 0 []] true)), (1, some (Blk.mk [D.bool (decide ((↑L : Int) < (0 : Int))), du (dig (↑L : Int).natAbs)] true)), (2, some (Blk.mk [D.bool (decide ((↑(cm f k) : Int) < (0 : Int))), du (dig (↑(cm f k) : Int).natAbs)] true)), (3, some (Blk.mk [D.bool (decide ((↑c : Int) < (0 : Int))), du (dig (↑c : Int).natAbs)] true))] 8)) (fun K => by kernel_rfl) ?_
      refine ⟨⟨rfl, rfl⟩, ⟨rfl, rfl⟩, hcmp, ?_⟩
      refine awp_cond rfl (fun e2 => ?_) (fun e2 => awp_skip (hK2 _ ?_))
      · have hlt : cm f k < c := by
          rcases Nat.lt_or_ge (cm f k) c with h | h
          · exact h
          · exfalso
            have e3 := of_decide_eq_true e2
            unfold cmpZ at e3
            rw [if_neg (by omega)] at e3
            split at e3 <;> omega
        refine awp_x prog_ok hP hnt [] [] [some (iz (c : Nat))] [2, 5, 6, 25, 26, 27] (by kernel_rfl) (G := fun K => ([D.bool (decide ((↑c : Int) < (0 : Int))), du (dig (↑c : Int).natAbs)][0]? = some (D.bool (decide ((↑c : Int) < (0 : Int)))) ∧ [D.bool (decide ((↑c : Int) < (0 : Int))), du (dig (↑c : Int).natAbs)][1]? = some (du (dig (↑c : Int).natAbs))) ∧ 0 + (iz (↑c : Int)).length ≤ [D.bool (decide ((↑(cm f k) : Int) < (0 : Int))), du (dig (↑(cm f k) : Int).natAbs)].length ∧ K (St.mk [(2, V.ptr 0 0), (5, V.ptr 1 0), (6, V.ptr 2 0), (25, V.d (D.lst n (rc (List.take n (cp f))))), (26, V.d (D.int IntKind.i64 (↑n : Int))), (27, V.d (D.int IntKind.i64 (↑k : Int)))] [(0, some (Blk.mk [D.bool false, D.lst 0 []] true)), (1, some (Blk.mk [D.bool (decide ((↑L : Int) < (0 : Int))), du (dig (↑L : Int).natAbs)] true)), (2, some (Blk.mk [D.bool (decide ((↑c : Int) < (0 : Int))), du (dig (↑c : Int).natAbs)] true)), (3, some (Blk.mk [D.bool (decide ((↑c : Int) < (0 : Int))), du (dig (↑c : Int).natAbs)] true))] 10)) (fun K => by kernel_rfl) ?_
        refine ⟨⟨rfl, rfl⟩, by simp [iz], hK2 _ ?_⟩
        refine awp_x prog_ok hP hnt [(50, .int .i64 (k + 1 : Nat))] [] [] [2, 5, 6, 25, 26, 27] (by kernel_rfl) (G := fun K => IntKind.i64.wrap ((↑k : Int) + (1 : Int)) = (↑(k + 1) : Int) ∧ K (St.mk [(2, V.ptr 0 0), (5, V.ptr 1 0), (6, V.ptr 2 0), (25, V.d (D.lst n (rc (List.take n (cp f))))), (26, V.d (D.int IntKind.i64 (↑n : Int))), (27, V.d (D.int IntKind.i64 (↑(k + 1) : Int)))] [(0, some (Blk.mk [D.bool false, D.lst 0 []] true)), (1, some (Blk.mk [D.bool (decide ((↑L : Int) < (0 : Int))), du (dig (↑L : Int).natAbs)] true)), (2, some (Blk.mk [D.bool (decide ((↑c : Int) < (0 : Int))), du (dig (↑c : Int).natAbs)] true)), (3, some (Blk.mk [D.bool (decide ((↑c : Int) < (0 : Int))), du (dig (↑c : Int).natAbs)] true))] 12)) (fun K => by kernel_rfl) ?_
        refine ⟨by rw [w64] <;> omega, k + 1, [(0, 0), (1, 1), (2, 2)], ⟨by omega, by omega⟩, ?_⟩
        rw [hmx, Nat.max_eq_right (by omega)]
        (constructor <;> simp [hl, envOk, memOk, conv, St.get, St.blk, iz])
      · have hle : c ≤ cm f k := by
          rcases Nat.lt_or_ge (cm f k) c with h | h
          · exfalso
            have e3 := of_decide_eq_false e2
            rw [cmpZ_gt (by omega)] at e3
            omega
          · exact h
        refine awp_x prog_ok hP hnt [(50, .int .i64 (k + 1 : Nat))] [] [] [2, 5, 6, 25, 26, 27] (by kernel_rfl) (G := fun K => IntKind.i64.wrap ((↑k : Int) + (1 : Int)) = (↑(k + 1) : Int) ∧ K (St.mk [(2, V.ptr 0 0), (5, V.ptr 1 0), (6, V.ptr 2 0), (25, V.d (D.lst n (rc (List.take n (cp f))))), (26, V.d (D.int IntKind.i64 (↑n : Int))), (27, V.d (D.int IntKind.i64 (↑(k + 1) : Int)))] [(0, some (Blk.mk [D.bool false, D.lst 0 []] true)), (1, some (Blk.mk [D.bool (decide ((↑L : Int) < (0 : Int))), du (dig (↑L : Int).natAbs)] true)), (2, some (Blk.mk [D.bool (decide ((↑(cm f k) : Int) < (0 : Int))), du (dig (↑(cm f k) : Int).natAbs)] true)), (3, some (Blk.mk [D.bool (decide ((↑c : Int) < (0 : Int))), du (dig (↑c : Int).natAbs)] true))] 10)) (fun K => by kernel_rfl) ?_
        refine ⟨by rw [w64] <;> omega, k + 1, [(0, 0), (1, 1), (2, 2)], ⟨by omega, by omega⟩, ?_⟩
        rw [hmx, Nat.max_eq_left hle]
        (constructor <;> simp [hl, envOk, memOk, conv, St.get, St.blk, iz])
    · simp at e
      have : k = n := by omega
      subst this
      (constructor <;> simp [hl, envOk, memOk, conv, St.get, St.blk, iz])
  intro _ _
  have hadd := addI (hcmz n) hone (by omega) (by omega)
  rw [hc]
  refine awp_sx prog_ok hP hnt [] [.val (.agg (iz 1)), .val (.agg (iz (cm f n + 1 : Nat)))] [some (iz (cm f n : Nat))] [2] (by kernel_rfl) (G := fun K => ((iz (↑(cm f n) : Int))[0]? = some (D.bool (decide ((↑(cm f n) : Int) < (0 : Int)))) ∧ (iz (↑(cm f n) : Int))[1]? = some (du (dig (↑(cm f n) : Int).natAbs))) ∧ Fn Try.prog 74 [V.d (D.int IntKind.i64 (1 : Int))] [] (V.agg [D.bool (decide ((1 : Int) < (0 : Int))), du (dig (Int.natAbs (1 : Int)))]) [] ∧ Fn Try.prog 96 [V.agg [D.bool (decide ((↑(cm f n) : Int) < (0 : Int))), du (dig (↑(cm f n) : Int).natAbs)], V.agg [D.bool (decide ((1 : Int) < (0 : Int))), du (dig (Int.natAbs (1 : Int)))]] [] (V.agg [D.bool (decide ((↑(cm f n + 1) : Int) < (0 : Int))), du (dig (↑(cm f n + 1) : Int).natAbs)]) [] ∧ 0 + (iz (↑(cm f n + 1) : Int)).length ≤ [D.bool false, D.lst 0 []].length ∧ K (St.mk [(2, V.ptr 0 0)] [(0, some (Blk.mk [D.bool (decide ((↑(cm f n + 1) : Int) < (0 : Int))), du (dig (↑(cm f n + 1) : Int).natAbs)] true)), (2, some (Blk.mk [D.bool (decide ((↑(cm f n) : Int) < (0 : Int))), du (dig (↑(cm f n) : Int).natAbs)] true))] 7)) (fun K => by kernel_rfl) ?_
  exact ⟨⟨rfl, rfl⟩, hz1, hadd, by simp [iz], awp_ret ⟨.inl rfl, retC (l := true) rfl rfl rfl rfl⟩⟩
end Go.Abs

set_option linter.unusedVariables false
set_option linter.unusedSimpArgs false
namespace Go.Abs
open Go Go.Proofs
set_option maxRecDepth 100000

/-- Make for a positive denominator -/
theorem rmake_fn (s : Bool) (l m : List Nat) (hl1 : l.length ≤ 2 ^ 38) (hm1 : m.length ≤ 2 ^ 38) (dl : Dg l) (dm : Dg m) (h0 : val m ≠ 0) :
    Fn Try.prog 110 [.agg (ic s l), .agg (ic false m)] [] (.tup [.agg (rt (rnum (ival s l) (val m)) (rden (ival s l) (val m))), .d (.int .i64 0)]) [] := by
  refine fn0 (nt := 18) (res := [.cell 4 78, .tmp 5]) Try.func110 rfl (by decide) rfl rfl rfl rfl ?_
  intro Cx hP hnt hl
  have hz := isZero_fn m (by omega) dm
  rw [decide_eq_false h0] at hz
  have hm := rmade_fn s l m hl1 hm1 dl dm
  refine awp_sx prog_ok hP hnt [] [] [] [2, 3, 4] (by kernel_rfl) (G := fun K => K (St.mk [(2, V.ptr 0 0), (3, V.ptr 1 0), (4, V.ptr 2 0)] [(0, some (Blk.mk [D.bool s, du l] true)), (1, some (Blk.mk [D.bool false, du m] true)), (2, some (Blk.mk [D.bool false, D.lst 0 [], D.lst 0 []] true))] 4)) (fun K => by kernel_rfl) ?_
  refine awp_seq_k fun K hK => ?_
  refine awp_sx prog_ok hP hnt [] [.val (.d (.bool false))] [some [du m]] [2, 3, 4, 8] (by kernel_rfl) (G := fun K => [D.bool false, du m][1]? = some (du m) ∧ Fn Try.prog 187 [V.d (du m)] [] (V.d (D.bool false)) [] ∧ K (St.mk [(2, V.ptr 0 0), (3, V.ptr 1 0), (4, V.ptr 2 0), (8, V.d (D.bool false))] [(0, some (Blk.mk [D.bool s, du l] true)), (1, some (Blk.mk [D.bool false, du m] true)), (2, some (Blk.mk [D.bool false, D.lst 0 [], D.lst 0 []] true))] 7)) (fun K => by kernel_rfl) ?_
  refine ⟨rfl, hz, awp_cond (b := false) rfl nofun fun _ => awp_skip (hK _ ?_)⟩
  refine awp_seq_k fun K2 hK2 => ?_
  refine awp_sx prog_ok hP hnt [] [] [some [.bool false]] [2, 3, 4, 11] (by kernel_rfl) (G := fun K => [D.bool false, du m][0]? = some (D.bool false) ∧ K (St.mk [(2, V.ptr 0 0), (3, V.ptr 1 0), (4, V.ptr 2 0), (11, V.d (D.bool false))] [(0, some (Blk.mk [D.bool s, du l] true)), (1, some (Blk.mk [D.bool false, du m] true)), (2, some (Blk.mk [D.bool false, D.lst 0 [], D.lst 0 []] true))] 9)) (fun K => by kernel_rfl) ?_
  refine ⟨rfl, awp_cond (b := false) rfl nofun fun _ => awp_skip (hK2 _ ?_)⟩
  refine awp_sx prog_ok hP hnt [] [.val (.agg (rt (rnum (ival s l) (val m)) (rden (ival s l) (val m))))] [some (ic s l), some [du m]] [4, 5] (by kernel_rfl) (G := fun K => ([D.bool s, du l][0]? = some (D.bool s) ∧ [D.bool s, du l][1]? = some (du l)) ∧ [D.bool false, du m][1]? = some (du m) ∧ Fn Try.prog 185 [V.agg [D.bool s, du l], V.d (du m)] [] (V.agg [D.bool (decide (rnum (ival s l) (val m) < (0 : Int))), du (dig (rnum (ival s l) (val m)).natAbs), du (dig (rden (ival s l) (val m)))]) [] ∧ 0 + (rt (rnum (ival s l) (val m)) (rden (ival s l) (val m))).length ≤ [D.bool false, D.lst 0 [], D.lst 0 []].length ∧ K (St.mk [(4, V.ptr 2 0), (5, V.d (D.int IntKind.i64 (0 : Int)))] [(0, some (Blk.mk [D.bool s, du l] true)), (1, some (Blk.mk [D.bool false, du m] true)), (2, some (Blk.mk [D.bool (decide (rnum (ival s l) (val m) < (0 : Int))), du (dig (rnum (ival s l) (val m)).natAbs), du (dig (rden (ival s l) (val m)))] true))] 15)) (fun K => by kernel_rfl) ?_
  exact ⟨⟨rfl, rfl⟩, rfl, hm, by simp [rt], awp_ret ⟨.inl rfl, retCT (l1 := true) rfl rfl rfl rfl rfl⟩⟩

theorem rcmp_fn (x y : Int) (p q : Nat) (hx : (dig x.natAbs).length ≤ 2 ^ 36) (hy : (dig y.natAbs).length ≤ 2 ^ 36) (hp : (dig p).length ≤ 2 ^ 36) (hq : (dig q).length ≤ 2 ^ 36) (p0 : p ≠ 0) (q0 : q ≠ 0) :
    Fn Try.prog 100 [.agg (rt x p), .agg (rt y q)] [] (.d (.int .i64 (cmpZ (x * q) (y * p)))) [] := by
  refine fn0 (nt := 38) (res := [.tmp 4]) Try.func100 rfl (by decide) rfl rfl rfl rfl ?_
  intro Cx hP hnt hl
  have k1 := parts_fn x p (by omega) (by omega) p0
  have k2 := parts_fn y q (by omega) (by omega) q0
  have s1 := sign_fn (decide (x < 0)) (dig x.natAbs) (by omega) (dig_lt _)
  have s2 := sign_fn (decide (y < 0)) (dig y.natAbs) (by omega) (dig_lt _)
  rw [ival_iz, ← iz_ic] at s1 s2
  have m1 := imul_fn (decide (x < 0)) false (dig x.natAbs) (dig q) (by omega) (by omega) (dig_lt _) (dig_lt _)
  have m2 := imul_fn (decide (y < 0)) false (dig y.natAbs) (dig p) (by omega) (by omega) (dig_lt _) (dig_lt _)
  rw [ival_iz, ← iz_ic, ← iz_nat', show ival false (dig q) = (q : Int) from by unfold ival sgn; rw [val_dig]; rfl] at m1
  rw [ival_iz, ← iz_ic, ← iz_nat', show ival false (dig p) = (p : Int) from by unfold ival sgn; rw [val_dig]; rfl] at m2
  refine awp_sx prog_ok hP hnt [] [] [] [2, 3] (by kernel_rfl) (G := fun K => K (St.mk [(2, V.ptr 0 0), (3, V.ptr 1 0)] [(0, some (Blk.mk [D.bool (decide (x < (0 : Int))), du (dig x.natAbs), du (dig p)] true)), (1, some (Blk.mk [D.bool (decide (y < (0 : Int))), du (dig y.natAbs), du (dig q)] true))] 3)) (fun K => by kernel_rfl) ?_
  refine awp_sx prog_ok hP hnt [] [.val (.tup [.agg (iz x), .agg (iz (p : Nat))])] [some (rt x p)] [3, 5, 6] (by kernel_rfl) (G := fun K => ([D.bool (decide (x < (0 : Int))), du (dig x.natAbs), du (dig p)][0]? = some (D.bool (decide (x < (0 : Int)))) ∧ [D.bool (decide (x < (0 : Int))), du (dig x.natAbs), du (dig p)][1]? = some (du (dig x.natAbs)) ∧ [D.bool (decide (x < (0 : Int))), du (dig x.natAbs), du (dig p)][2]? = some (du (dig p))) ∧ Fn Try.prog 184 [V.agg [D.bool (decide (x < (0 : Int))), du (dig x.natAbs), du (dig p)]] [] (V.tup [V.agg [D.bool (decide (x < (0 : Int))), du (dig x.natAbs)], V.agg [D.bool (decide ((↑p : Int) < (0 : Int))), du (dig (↑p : Int).natAbs)]]) [] ∧ 0 + (iz x).length ≤ (TI.mk (Kind.struct [(0, 1), (1, 1)]) 2 32 [D.bool false, D.lst 0 []]).zero.length ∧ 0 + (iz (↑p : Int)).length ≤ (TI.mk (Kind.struct [(0, 1), (1, 1)]) 2 32 [D.bool false, D.lst 0 []]).zero.length ∧ K (St.mk [(3, V.ptr 1 0), (5, V.ptr 8 0), (6, V.ptr 9 0)] [(0, some (Blk.mk [D.bool (decide (x < (0 : Int))), du (dig x.natAbs), du (dig p)] true)), (1, some (Blk.mk [D.bool (decide (y < (0 : Int))), du (dig y.natAbs), du (dig q)] true)), (8, some (Blk.mk [D.bool (decide (x < (0 : Int))), du (dig x.natAbs)] true)), (9, some (Blk.mk [D.bool (decide ((↑p : Int) < (0 : Int))), du (dig (↑p : Int).natAbs)] true))] 12)) (fun K => by kernel_rfl) ?_
  refine ⟨⟨rfl, rfl, rfl⟩, k1, by simp [iz], by simp [iz], ?_⟩
  refine awp_sx prog_ok hP hnt [] [.val (.tup [.agg (iz y), .agg (iz (q : Nat))])] [some (rt y q)] [5, 6, 7, 8] (by kernel_rfl) (G := fun K => ([D.bool (decide (y < (0 : Int))), du (dig y.natAbs), du (dig q)][0]? = some (D.bool (decide (y < (0 : Int)))) ∧ [D.bool (decide (y < (0 : Int))), du (dig y.natAbs), du (dig q)][1]? = some (du (dig y.natAbs)) ∧ [D.bool (decide (y < (0 : Int))), du (dig y.natAbs), du (dig q)][2]? = some (du (dig q))) ∧ Fn Try.prog 184 [V.agg [D.bool (decide (y < (0 : Int))), du (dig y.natAbs), du (dig q)]] [] (V.tup [V.agg [D.bool (decide (y < (0 : Int))), du (dig y.natAbs)], V.agg [D.bool (decide ((↑q : Int) < (0 : Int))), du (dig (↑q : Int).natAbs)]]) [] ∧ 0 + (iz y).length ≤ (TI.mk (Kind.struct [(0, 1), (1, 1)]) 2 32 [D.bool false, D.lst 0 []]).zero.length ∧ 0 + (iz (↑q : Int)).length ≤ (TI.mk (Kind.struct [(0, 1), (1, 1)]) 2 32 [D.bool false, D.lst 0 []]).zero.length ∧ K (St.mk [(5, V.ptr 8 0), (6, V.ptr 9 0), (7, V.ptr 17 0), (8, V.ptr 18 0)] [(0, some (Blk.mk [D.bool (decide (x < (0 : Int))), du (dig x.natAbs), du (dig p)] true)), (1, some (Blk.mk [D.bool (decide (y < (0 : Int))), du (dig y.natAbs), du (dig q)] true)), (8, some (Blk.mk [D.bool (decide (x < (0 : Int))), du (dig x.natAbs)] true)), (9, some (Blk.mk [D.bool (decide ((↑p : Int) < (0 : Int))), du (dig (↑p : Int).natAbs)] true)), (17, some (Blk.mk [D.bool (decide (y < (0 : Int))), du (dig y.natAbs)] true)), (18, some (Blk.mk [D.bool (decide ((↑q : Int) < (0 : Int))), du (dig (↑q : Int).natAbs)] true))] 21)) (fun K => by kernel_rfl) ?_
  refine ⟨⟨rfl, rfl, rfl⟩, k2, by simp [iz], by simp [iz], ?_⟩
  have hx0 : 0 < (p : Int) := by omega
  have hq0 : 0 < (q : Int) := by omega
  refine awp_seq_k fun K hK => ?_
  refine awp_sx prog_ok hP hnt [] [.val (.d (.int .i64 x.sign)), .val (.d (.int .i64 y.sign))] [some (iz x), some (iz y)] [5, 6, 7, 8, 9, 10] (by kernel_rfl) (G := fun K => ([D.bool (decide (x < (0 : Int))), du (dig x.natAbs)][0]? = some (D.bool (decide (x < (0 : Int)))) ∧ [D.bool (decide (x < (0 : Int))), du (dig x.natAbs)][1]? = some (du (dig x.natAbs))) ∧ Fn Try.prog 102 [V.agg [D.bool (decide (x < (0 : Int))), du (dig x.natAbs)]] [] (V.d (D.int IntKind.i64 x.sign)) [] ∧ ([D.bool (decide (y < (0 : Int))), du (dig y.natAbs)][0]? = some (D.bool (decide (y < (0 : Int)))) ∧ [D.bool (decide (y < (0 : Int))), du (dig y.natAbs)][1]? = some (du (dig y.natAbs))) ∧ Fn Try.prog 102 [V.agg [D.bool (decide (y < (0 : Int))), du (dig y.natAbs)]] [] (V.d (D.int IntKind.i64 y.sign)) [] ∧ K (St.mk [(5, V.ptr 8 0), (6, V.ptr 9 0), (7, V.ptr 17 0), (8, V.ptr 18 0), (9, V.d (D.int IntKind.i64 x.sign)), (10, V.d (D.int IntKind.i64 y.sign))] [(0, some (Blk.mk [D.bool (decide (x < (0 : Int))), du (dig x.natAbs), du (dig p)] true)), (1, some (Blk.mk [D.bool (decide (y < (0 : Int))), du (dig y.natAbs), du (dig q)] true)), (8, some (Blk.mk [D.bool (decide (x < (0 : Int))), du (dig x.natAbs)] true)), (9, some (Blk.mk [D.bool (decide ((↑p : Int) < (0 : Int))), du (dig (↑p : Int).natAbs)] true)), (17, some (Blk.mk [D.bool (decide (y < (0 : Int))), du (dig y.natAbs)] true)), (18, some (Blk.mk [D.bool (decide ((↑q : Int) < (0 : Int))), du (dig (↑q : Int).natAbs)] true))] 27)) (fun K => by kernel_rfl) ?_
  refine ⟨⟨rfl, rfl⟩, s1, ⟨rfl, rfl⟩, s2, ?_⟩
  refine awp_sx prog_ok hP hnt [] [] [] [5, 6, 7, 8, 9, 10, 27] (by kernel_rfl) (G := fun K => K (St.mk [(5, V.ptr 8 0), (6, V.ptr 9 0), (7, V.ptr 17 0), (8, V.ptr 18 0), (9, V.d (D.int IntKind.i64 x.sign)), (10, V.d (D.int IntKind.i64 y.sign)), (27, V.d (D.bool (x.sign != y.sign)))] [(0, some (Blk.mk [D.bool (decide (x < (0 : Int))), du (dig x.natAbs), du (dig p)] true)), (1, some (Blk.mk [D.bool (decide (y < (0 : Int))), du (dig y.natAbs), du (dig q)] true)), (8, some (Blk.mk [D.bool (decide (x < (0 : Int))), du (dig x.natAbs)] true)), (9, some (Blk.mk [D.bool (decide ((↑p : Int) < (0 : Int))), du (dig (↑p : Int).natAbs)] true)), (17, some (Blk.mk [D.bool (decide (y < (0 : Int))), du (dig y.natAbs)] true)), (18, some (Blk.mk [D.bool (decide ((↑q : Int) < (0 : Int))), du (dig (↑q : Int).natAbs)] true))] 30)) (fun K => by kernel_rfl) ?_
  refine awp_cond rfl (fun e => ?_) (fun e => awp_skip (hK _ ?_))
  · refine awp_seq_k fun K2 hK2 => ?_
    refine awp_sx prog_ok hP hnt [] [] [] [30] (by kernel_rfl) (G := fun K => K (St.mk [(30, V.d (D.bool (decide (x.sign > y.sign))))] [(0, some (Blk.mk [D.bool (decide (x < (0 : Int))), du (dig x.natAbs), du (dig p)] true)), (1, some (Blk.mk [D.bool (decide (y < (0 : Int))), du (dig y.natAbs), du (dig q)] true)), (8, some (Blk.mk [D.bool (decide (x < (0 : Int))), du (dig x.natAbs)] true)), (9, some (Blk.mk [D.bool (decide ((↑p : Int) < (0 : Int))), du (dig (↑p : Int).natAbs)] true)), (17, some (Blk.mk [D.bool (decide (y < (0 : Int))), du (dig y.natAbs)] true)), (18, some (Blk.mk [D.bool (decide ((↑q : Int) < (0 : Int))), du (dig (↑q : Int).natAbs)] true))] 33)) (fun K => by kernel_rfl) ?_
    refine awp_cond rfl (fun e2 => ?_) (fun e2 => awp_skip (hK2 _ ?_))
    · have e3 := of_decide_eq_true e2
      have hgt : y * p < x * q := by
        rcases sign_cases x with ⟨a, b⟩ | ⟨a, b⟩ | ⟨a, b⟩ <;> rcases sign_cases y with ⟨c, d⟩ | ⟨c, d⟩ | ⟨c, d⟩ <;> rw [b, d] at e3 <;> try omega
        · rw [a, Int.zero_mul]; exact Int.mul_neg_of_neg_of_pos c hx0
        · exact Int.lt_trans (Int.mul_neg_of_neg_of_pos c hx0) (Int.mul_pos a hq0)
        · rw [c, Int.zero_mul]; exact Int.mul_pos a hq0
      rw [cmpZ_gt hgt]
      refine awp_sx prog_ok hP hnt [] [] [] [4] (by kernel_rfl) (G := fun K => K (St.mk [(4, V.d (D.int IntKind.i64 (1 : Int)))] [(0, some (Blk.mk [D.bool (decide (x < (0 : Int))), du (dig x.natAbs), du (dig p)] true)), (1, some (Blk.mk [D.bool (decide (y < (0 : Int))), du (dig y.natAbs), du (dig q)] true)), (8, some (Blk.mk [D.bool (decide (x < (0 : Int))), du (dig x.natAbs)] true)), (9, some (Blk.mk [D.bool (decide ((↑p : Int) < (0 : Int))), du (dig (↑p : Int).natAbs)] true)), (17, some (Blk.mk [D.bool (decide (y < (0 : Int))), du (dig y.natAbs)] true)), (18, some (Blk.mk [D.bool (decide ((↑q : Int) < (0 : Int))), du (dig (↑q : Int).natAbs)] true))] 34)) (fun K => by kernel_rfl) ?_
      exact awp_ret ⟨.inl rfl, retD rfl⟩
    · have e3 := of_decide_eq_false e2
      have e4 : x.sign ≠ y.sign := by simpa using e
      have hlt : x * q < y * p := by
        rcases sign_cases x with ⟨a, b⟩ | ⟨a, b⟩ | ⟨a, b⟩ <;> rcases sign_cases y with ⟨c, d⟩ | ⟨c, d⟩ | ⟨c, d⟩ <;> rw [b, d] at e3 e4 <;> try omega
        · rw [c, Int.zero_mul]; exact Int.mul_neg_of_neg_of_pos a hq0
        · exact Int.lt_trans (Int.mul_neg_of_neg_of_pos a hq0) (Int.mul_pos c hx0)
        · rw [a, Int.zero_mul]; exact Int.mul_pos c hx0
      rw [cmpZ_lt hlt]
      refine awp_sx prog_ok hP hnt [] [] [] [4] (by kernel_rfl) (G := fun K => K (St.mk [(4, V.d (D.int IntKind.i64 (-1 : Int)))] [(0, some (Blk.mk [D.bool (decide (x < (0 : Int))), du (dig x.natAbs), du (dig p)] true)), (1, some (Blk.mk [D.bool (decide (y < (0 : Int))), du (dig y.natAbs), du (dig q)] true)), (8, some (Blk.mk [D.bool (decide (x < (0 : Int))), du (dig x.natAbs)] true)), (9, some (Blk.mk [D.bool (decide ((↑p : Int) < (0 : Int))), du (dig (↑p : Int).natAbs)] true)), (17, some (Blk.mk [D.bool (decide (y < (0 : Int))), du (dig y.natAbs)] true)), (18, some (Blk.mk [D.bool (decide ((↑q : Int) < (0 : Int))), du (dig (↑q : Int).natAbs)] true))] 34)) (fun K => by kernel_rfl) ?_
      exact awp_ret ⟨.inl rfl, retD rfl⟩
  · have hcm : Fn Try.prog 143 [.agg (iz (x * q)), .agg (iz (y * p))] [] (.d (.int .i64 (cmpZ (x * q) (y * p)))) [] := by
      have hb : ∀ (z : Int) (r : Nat), (dig z.natAbs).length ≤ 2 ^ 36 → (dig r).length ≤ 2 ^ 36 → (dig (z * r).natAbs).length ≤ 2 ^ 40 := fun z r h1 h2 => by
        refine Nat.le_trans (dig_len (k := (dig z.natAbs).length + (dig r).length) ?_) (by omega)
        rw [Int.natAbs_mul, Int.natAbs_natCast, Nat.pow_add]
        have a1 := val_lt (dig_lt z.natAbs)
        have a2 := val_lt (dig_lt r)
        rw [val_dig] at a1 a2
        exact Nat.mul_lt_mul'' a1 a2
      have := icmp_fn (decide (x * q < 0)) (decide (y * p < 0)) (dig (x * q).natAbs) (dig (y * p).natAbs) (hb x q hx hq) (hb y p hy hp) (dig_lt _) (dig_lt _)
      rwa [ival_iz, ival_iz, ← iz_ic, ← iz_ic] at this
    refine awp_sx prog_ok hP hnt [] [.val (.agg (iz (x * q))), .val (.agg (iz (y * p))), .val (.d (.int .i64 (cmpZ (x * q) (y * p))))] [some (iz x), some (iz (q : Nat)), some (iz y), some (iz (p : Nat))] [4] (by kernel_rfl) (G := fun K => ([D.bool (decide (x < (0 : Int))), du (dig x.natAbs)][0]? = some (D.bool (decide (x < (0 : Int)))) ∧ [D.bool (decide (x < (0 : Int))), du (dig x.natAbs)][1]? = some (du (dig x.natAbs))) ∧ ([D.bool (decide ((↑q : Int) < (0 : Int))), du (dig (↑q : Int).natAbs)][0]? = some (D.bool (decide ((↑q : Int) < (0 : Int)))) ∧ [D.bool (decide ((↑q : Int) < (0 : Int))), du (dig (↑q : Int).natAbs)][1]? = some (du (dig (↑q : Int).natAbs))) ∧ Fn Try.prog 123 [V.agg [D.bool (decide (x < (0 : Int))), du (dig x.natAbs)], V.agg [D.bool (decide ((↑q : Int) < (0 : Int))), du (dig (↑q : Int).natAbs)]] [] (V.agg [D.bool (decide (x * (↑q : Int) < (0 : Int))), du (dig (x * (↑q : Int)).natAbs)]) [] ∧ ([D.bool (decide (y < (0 : Int))), du (dig y.natAbs)][0]? = some (D.bool (decide (y < (0 : Int)))) ∧ [D.bool (decide (y < (0 : Int))), du (dig y.natAbs)][1]? = some (du (dig y.natAbs))) ∧ ([D.bool (decide ((↑p : Int) < (0 : Int))), du (dig (↑p : Int).natAbs)][0]? = some (D.bool (decide ((↑p : Int) < (0 : Int)))) ∧ [D.bool (decide ((↑p : Int) < (0 : Int))), du (dig (↑p : Int).natAbs)][1]? = some (du (dig (↑p : Int).natAbs))) ∧ Fn Try.prog 123 [V.agg [D.bool (decide (y < (0 : Int))), du (dig y.natAbs)], V.agg [D.bool (decide ((↑p : Int) < (0 : Int))), du (dig (↑p : Int).natAbs)]] [] (V.agg [D.bool (decide (y * (↑p : Int) < (0 : Int))), du (dig (y * (↑p : Int)).natAbs)]) [] ∧ Fn Try.prog 143 [V.agg [D.bool (decide (x * (↑q : Int) < (0 : Int))), du (dig (x * (↑q : Int)).natAbs)], V.agg [D.bool (decide (y * (↑p : Int) < (0 : Int))), du (dig (y * (↑p : Int)).natAbs)]] [] (V.d (D.int IntKind.i64 (cmpZ (x * (↑q : Int)) (y * (↑p : Int))))) [] ∧ K (St.mk [(4, V.d (D.int IntKind.i64 (cmpZ (x * (↑q : Int)) (y * (↑p : Int)))))] [(0, some (Blk.mk [D.bool (decide (x < (0 : Int))), du (dig x.natAbs), du (dig p)] true)), (1, some (Blk.mk [D.bool (decide (y < (0 : Int))), du (dig y.natAbs), du (dig q)] true)), (8, some (Blk.mk [D.bool (decide (x < (0 : Int))), du (dig x.natAbs)] true)), (9, some (Blk.mk [D.bool (decide ((↑p : Int) < (0 : Int))), du (dig (↑p : Int).natAbs)] true)), (17, some (Blk.mk [D.bool (decide (y < (0 : Int))), du (dig y.natAbs)] true)), (18, some (Blk.mk [D.bool (decide ((↑q : Int) < (0 : Int))), du (dig (↑q : Int).natAbs)] true))] 38)) (fun K => by kernel_rfl) ?_
    exact ⟨⟨rfl, rfl⟩, ⟨rfl, rfl⟩, m1, ⟨rfl, rfl⟩, ⟨rfl, rfl⟩, m2, hcm, awp_ret ⟨.inl rfl, retD rfl⟩⟩
end Go.Abs

set_option linter.unusedVariables false
set_option linter.unusedSimpArgs false
namespace Go.Abs
open Go Go.Proofs Poly
set_option maxRecDepth 100000

theorem is14_fn (s : Bool) (l : List Nat) (n : Int) (h : l.length ≤ 2 ^ 39) (hd : Dg l) (h1 : -9223372036854775808 ≤ n) (h2 : n ≤ 9223372036854775807) :
    Fn Try.prog 84 [.agg (ic s l), .d (.int .i64 n)] [] (.d (.bool (decide (ival s l = n)))) [] := by
  refine fn0 (nt := 10) (res := [.tmp 4]) Try.func84 rfl (by decide) rfl rfl rfl rfl ?_
  intro Cx hP hnt hl
  have ho := iOf_fn n h1 h2
  have hn2 : (dig n.natAbs).length ≤ 2 := dig_len (by omega)
  have hc := icmp_fn s (decide (n < 0)) l (dig n.natAbs) (by omega) (by omega) hd (dig_lt _)
  rw [ival_iz, ← iz_ic] at hc
  refine awp_sx prog_ok hP hnt [] [] [] [1, 2] (by kernel_rfl) (G := fun K => K (St.mk [(1, V.d (D.int IntKind.i64 n)), (2, V.ptr 0 0)] [(0, some (Blk.mk [D.bool s, du l] true))] 2)) (fun K => by kernel_rfl) ?_
  refine awp_sx prog_ok hP hnt [] [.val (.agg (iz n)), .val (.d (.int .i64 (cmpZ (ival s l) n)))] [some (ic s l)] [4] (by kernel_rfl) (G := fun K => ([D.bool s, du l][0]? = some (D.bool s) ∧ [D.bool s, du l][1]? = some (du l)) ∧ Fn Try.prog 74 [V.d (D.int IntKind.i64 n)] [] (V.agg [D.bool (decide (n < (0 : Int))), du (dig n.natAbs)]) [] ∧ Fn Try.prog 143 [V.agg [D.bool s, du l], V.agg [D.bool (decide (n < (0 : Int))), du (dig n.natAbs)]] [] (V.d (D.int IntKind.i64 (cmpZ (ival s l) n))) [] ∧ K (St.mk [(4, V.d (D.bool (cmpZ (ival s l) n == (0 : Int))))] [(0, some (Blk.mk [D.bool s, du l] true))] 8)) (fun K => by kernel_rfl) ?_
  refine ⟨⟨rfl, rfl⟩, ho, hc, awp_ret ⟨.inl rfl, retD ?_⟩⟩
  have : (cmpZ (ival s l) n == 0) = decide (ival s l = n) := by
    rw [Bool.eq_iff_iff, beq_iff_eq, decide_eq_true_iff, cmpZ_zero]
  rw [← this]; rfl

theorem cauchy_2 : cauchy (polL [2, -5, 2]) = 4 := by
  have hsz : (polL [2, -5, 2]).sz = 3 := by
    apply Nat.le_antisymm (polL_sz _)
    rcases Nat.lt_or_ge (polL [2, -5, 2]).sz 3 with h | h
    · have h2 : (polL [2, -5, 2]).c 2 = 0 := above (by omega)
      exact absurd h2 (by decide)
    · exact h
  have hlc : (polL [2, -5, 2]).lc = 2 := by unfold Poly.lc; rw [hsz]; rfl
  unfold cauchy
  rw [hsz, if_neg (by omega)]
  simp only [cm, hlc]
  decide

theorem awake14_fn : Fn Try.prog 75 [] [] (.d (.bool true)) [] := by
  refine fn0 (nt := 13) (res := [.tmp 0]) Try.func75 rfl (by decide) rfl rfl rfl rfl ?_
  intro Cx hP hnt hl
  have ho := ofP [2, -5, 2] (by decide) (by intro z hz; simp at hz; omega)
  have hb : W 0 (cp (polL [2, -5, 2])) := by
    have hB : Bz 3 [2, -5, 2] := by intro z hz; simp at hz; rcases hz with rfl | rfl | rfl <;> decide
    refine Lv.w ⟨Nat.le_trans (polL_sz _) (by decide), fun k => Nat.lt_of_lt_of_le (hB.getD k) ?_⟩
    exact Nat.le_trans (show 2 ^ 3 ≤ 4294967296 ^ 1 by decide) (Nat.pow_le_pow_right (by omega) (by omega))
  have hc := cauchyP (by omega) hb
  rw [pol_cp, cauchy_2] at hc
  have h3 := iOf_fn 3 (by decide) (by decide)
  have hcmp := icmp_fn (decide ((4 : Int) < 0)) (decide ((3 : Int) < 0)) (dig (4 : Int).natAbs) (dig (3 : Int).natAbs) (by have := dig_len (n := 4) (k := 1) (by decide); show (dig 4).length ≤ _; omega) (by have := dig_len (n := 3) (k := 1) (by decide); show (dig 3).length ≤ _; omega) (dig_lt _) (dig_lt _)
  rw [ival_iz, ival_iz, ← iz_ic, ← iz_ic] at hcmp
  have his := is14_fn (decide ((4 : Int) < 0)) (dig (4 : Int).natAbs) 4 (by have := dig_len (n := 4) (k := 1) (by decide); show (dig 4).length ≤ _; omega) (dig_lt _) (by decide) (by decide)
  rw [ival_iz, ← iz_ic] at his
  refine awp_sx prog_ok hP hnt [] [] [] [] (by kernel_rfl) (G := fun K => K (St.mk [] [] 1)) (fun K => by kernel_rfl) ?_
  refine awp_sx prog_ok hP hnt [] [.val (.d (rp (cp (polL [2, -5, 2])))), .val (.agg (iz 4))] [] [1] (by kernel_rfl) (G := fun K => Fn Try.prog 51 [V.d (D.lst 3 [D.int IntKind.i64 (2 : Int), D.int IntKind.i64 (-5 : Int), D.int IntKind.i64 (2 : Int)])] [] (V.d (rp (cp (polL [(2 : Int), (-5 : Int), (2 : Int)])))) [] ∧ Fn Try.prog 104 [V.d (rp (cp (polL [(2 : Int), (-5 : Int), (2 : Int)])))] [] (V.agg [D.bool (decide ((4 : Int) < (0 : Int))), du (dig (Int.natAbs (4 : Int)))]) [] ∧ 2 ≤ (TI.mk (Kind.struct [(0, 1), (1, 1)]) 2 32 [D.bool false, D.lst 0 []]).zero.length ∧ K (St.mk [(1, V.ptr 4 0)] [(4, some (Blk.mk [D.bool (decide ((4 : Int) < (0 : Int))), du (dig (Int.natAbs (4 : Int)))] true))] 6)) (fun K => by kernel_rfl) ?_
  refine ⟨ho, hc, by simp, ?_⟩
  refine awp_sx prog_ok hP hnt [(8, .bool true)] [.val (.agg (iz 3)), .val (.d (.int .i64 (cmpZ 4 3))), .val (.d (.bool (decide ((4 : Int) = 4))))] [some (iz 4), some (iz 4)] [0] (by kernel_rfl) (G := fun K => ([D.bool (decide ((4 : Int) < (0 : Int))), du (dig (Int.natAbs (4 : Int)))][0]? = some (D.bool (decide ((4 : Int) < (0 : Int)))) ∧ [D.bool (decide ((4 : Int) < (0 : Int))), du (dig (Int.natAbs (4 : Int)))][1]? = some (du (dig (Int.natAbs (4 : Int))))) ∧ Fn Try.prog 74 [V.d (D.int IntKind.i64 (3 : Int))] [] (V.agg [D.bool (decide ((3 : Int) < (0 : Int))), du (dig (Int.natAbs (3 : Int)))]) [] ∧ Fn Try.prog 143 [V.agg [D.bool (decide ((4 : Int) < (0 : Int))), du (dig (Int.natAbs (4 : Int)))], V.agg [D.bool (decide ((3 : Int) < (0 : Int))), du (dig (Int.natAbs (3 : Int)))]] [] (V.d (D.int IntKind.i64 (cmpZ (4 : Int) (3 : Int)))) [] ∧ decide (cmpZ (4 : Int) (3 : Int) > (0 : Int)) = true ∧ ([D.bool (decide ((4 : Int) < (0 : Int))), du (dig (Int.natAbs (4 : Int)))][0]? = some (D.bool (decide ((4 : Int) < (0 : Int)))) ∧ [D.bool (decide ((4 : Int) < (0 : Int))), du (dig (Int.natAbs (4 : Int)))][1]? = some (du (dig (Int.natAbs (4 : Int))))) ∧ Fn Try.prog 84 [V.agg [D.bool (decide ((4 : Int) < (0 : Int))), du (dig (Int.natAbs (4 : Int)))], V.d (D.int IntKind.i64 (4 : Int))] [] (V.d (D.bool (decide ((4 : Int) = (4 : Int))))) [] ∧ K (St.mk [(0, V.d (D.bool (decide ((4 : Int) = (4 : Int)))))] [(4, some (Blk.mk [D.bool (decide ((4 : Int) < (0 : Int))), du (dig (Int.natAbs (4 : Int)))] true))] 15)) (fun K => by kernel_rfl) ?_
  exact ⟨⟨rfl, rfl⟩, h3, hcmp, by rfl, ⟨rfl, rfl⟩, his, awp_ret ⟨.inl rfl, retD rfl⟩⟩

/-- the first numbers, limited -/
def clip (m x : Int) : Int := min (max x (-m)) m
def wideL (n : Nat) (m : Int) (l : List Int) : List Int := (l.take n).map (clip m)

theorem i16s_len (l : List Int) : (i16s l).length = l.length := by
  have := fm_len (g := fun n : Int => [D.int .i16 n]) (w := 1) (fun _ => rfl) l
  rw [Nat.mul_one] at this; exact this
theorem i16s_get (l : List Int) (i : Nat) : (i16s l)[i]? = (l[i]?).map fun d => D.int .i16 d := by
  induction l generalizing i with
  | nil => simp [i16s, fm]
  | cons x l ih =>
    cases i with
    | zero => rfl
    | succ i => show (i16s l)[i]? = _; rw [ih]; rfl

theorem wide_fn (l : List Int) (n : Nat) (m : Int) (hl0 : ∀ z ∈ l, -32768 ≤ z ∧ z ≤ 32767) (hn : n ≤ 100) (hm : 0 ≤ m ∧ m ≤ 100000) :
    Fn Try.prog 82 [.d (.lst l.length (i16s l)), .d (.int .i64 n), .d (.int .i64 m)] [] (.d (.lst (wideL n m l).length (i64s (wideL n m l)))) [] := by
  refine fn0 (nt := 34) (res := [.tmp 6]) Try.func82 rfl (by decide) rfl rfl rfl rfl ?_
  intro Cx hP hnt hl
  refine awp_sx prog_ok hP hnt [] [] [] [0, 1, 2] (by kernel_rfl) (G := fun K => K (St.mk [(0, V.d (D.lst l.length (i16s l))), (1, V.d (D.int IntKind.i64 (↑n : Int))), (2, V.d (D.int IntKind.i64 m))] [] 1)) (fun K => by kernel_rfl) ?_
  refine awp_sx prog_ok hP hnt [] [] [] [0, 1, 2, 7] (by kernel_rfl) (G := fun K => K (St.mk [(0, V.d (D.lst l.length (i16s l))), (1, V.d (D.int IntKind.i64 (↑n : Int))), (2, V.d (D.int IntKind.i64 m)), (7, V.nil)] [] 2)) (fun K => by kernel_rfl) ?_
  refine awp_cut (ι := Unit) (fun _ => ⟨[(7, .own 0 0 (wideL n m l).length 1)], [(0, some ⟨i64s (wideL n m l), true⟩)], 1⟩) (fun _ => True) ?_ ?_
  · refine awp_sx prog_ok hP hnt [] [] [] [0, 1, 2, 7, 8] (by kernel_rfl) (G := fun K => K (St.mk [(0, V.d (D.lst l.length (i16s l))), (1, V.d (D.int IntKind.i64 (↑n : Int))), (2, V.d (D.int IntKind.i64 m)), (7, V.nil), (8, V.d (D.int IntKind.i64 (0 : Int)))] [] 3)) (fun K => by kernel_rfl) ?_
    refine awp_block ?_
    refine awp_loop (ι := Nat) (fun k => ⟨[(0, .d (.lst l.length (i16s l))), (1, .d (.int .i64 n)), (2, .d (.int .i64 m)), (7, .own 0 0 k 1), (8, .d (.int .i64 k))], [(0, some ⟨i64s (wideL k m l), true⟩)], 1⟩)
      (fun k => k ≤ l.length ∧ k ≤ n) (fun k => l.length - k) 0 [] ⟨by omega, by omega⟩ ?_ ?_
    · (constructor <;> simp [hl, envOk, memOk, conv, St.get, St.blk, wideL, i64s])
    intro k ⟨hk1, hk2⟩
    refine awp_seq_k fun K1 hK1 => ?_
    have hfin : ¬ (k < l.length ∧ k < n) → wideL k m l = wideL n m l := fun h => by
      unfold wideL
      congr 1
      rcases Nat.lt_or_ge k l.length with h1 | h1
      · rw [show k = n by omega]
      · rw [List.take_of_length_le h1, List.take_of_length_le (by omega)]
    have hwl : (wideL k m l).length = k := by simp [wideL]; omega
    by_cases h1 : k < l.length
    · by_cases h2 : k < n
      · obtain ⟨z, hz⟩ := get_ex (l := l) (i := k) h1
        have hz16 := hl0 z (List.mem_of_getElem? hz)
        have hsucc : wideL (k + 1) m l = wideL k m l ++ [clip m z] := by
          unfold wideL
          rw [List.take_add_one, hz, List.map_append]; rfl
        refine awp_sx prog_ok hP hnt [(12, .bool true), (16, .bool true), (17, .bool true)] [] [] [0, 1, 2, 7, 8, 17] (by kernel_rfl) (G := fun K => decide ((↑k : Int) < (↑l.length : Int)) = true ∧ decide ((↑k : Int) < (↑n : Int)) = true ∧ true = true ∧ K (St.mk [(0, V.d (D.lst l.length (i16s l))), (1, V.d (D.int IntKind.i64 (↑n : Int))), (2, V.d (D.int IntKind.i64 m)), (7, V.own 0 0 k 1), (8, V.d (D.int IntKind.i64 (↑k : Int))), (17, V.d (D.bool true))] [(0, some (Blk.mk (i64s (wideL k m l)) true))] 10)) (fun K => by kernel_rfl) ?_
        refine ⟨by simp; omega, by simp; omega, rfl, awp_cond (b := true) rfl (fun _ => awp_skip (hK1 _ ?_)) nofun⟩
        refine awp_seq_k fun K2 hK2 => ?_
        refine awp_block ?_
        refine awp_x prog_ok hP hnt [(25, .int .i64 z), (30, .int .i64 (clip m z))] [] [some [.int .i16 z]] [0, 1, 2, 7, 8] (by kernel_rfl) (G := fun K => ((0 : Int) ≤ (↑k : Int) ∧ (↑k : Int) < (↑l.length : Int) ∧ ((↑k : Int).toNat + 1) * 1 ≤ (i16s l).length) ∧ (List.drop ((↑k : Int).toNat * 1) (i16s l))[0]? = some (D.int IntKind.i16 z) ∧ IntKind.i64.wrap z = z ∧ (if m < if IntKind.i64.wrap ((0 : Int) - m) > z then IntKind.i64.wrap ((0 : Int) - m) else z then m else if IntKind.i64.wrap ((0 : Int) - m) > z then IntKind.i64.wrap ((0 : Int) - m) else z) = clip m z ∧ 1 = 1 ∧ ((i64s (wideL k m l)).length = k * 1 ∧ (k + 1) * 8 ≤ 2 ^ 47) ∧ K (St.mk [(0, V.d (D.lst l.length (i16s l))), (1, V.d (D.int IntKind.i64 (↑n : Int))), (2, V.d (D.int IntKind.i64 m)), (7, V.own 22 0 (k + 1) 1), (8, V.d (D.int IntKind.i64 (↑k : Int)))] [(0, none), (22, some (Blk.mk (i64s (wideL k m l) ++ setCells (zeros 1 (TI.mk (Kind.int IntKind.i64) 1 8 [D.int IntKind.i64 (0 : Int)]).zero) 0 [D.int IntKind.i64 (clip m z)]) true))] 24)) (fun K => by kernel_rfl) ?_
        have hw1 : IntKind.i64.wrap (0 - m) = -m := by rw [w64] <;> omega
        have hmm : (if m < if IntKind.i64.wrap (0 - m) > z then IntKind.i64.wrap (0 - m) else z then m else if IntKind.i64.wrap (0 - m) > z then IntKind.i64.wrap (0 - m) else z) = clip m z := by
          rw [hw1]; unfold clip
          by_cases h3 : -m > z
          · rw [if_pos h3]; split <;> omega
          · rw [if_neg h3]; split <;> omega
        refine ⟨⟨by omega, by omega, by rw [i16s_len]; omega⟩, by rw [Int.toNat_natCast, Nat.mul_one, List.getElem?_drop, Nat.add_zero, i16s_get, hz]; rfl, by rw [w64] <;> omega, hmm, rfl, ⟨by rw [i64s_len, hwl]; omega, by omega⟩, hK2 _ ?_⟩
        refine awp_x prog_ok hP hnt [(19, .int .i64 (k + 1 : Nat))] [] [] [0, 1, 2, 7, 8] (by kernel_rfl) (G := fun K => IntKind.i64.wrap ((↑k : Int) + (1 : Int)) = (↑(k + 1) : Int) ∧ K (St.mk [(0, V.d (D.lst l.length (i16s l))), (1, V.d (D.int IntKind.i64 (↑n : Int))), (2, V.d (D.int IntKind.i64 m)), (7, V.own 22 0 (k + 1) 1), (8, V.d (D.int IntKind.i64 (↑(k + 1) : Int)))] [(0, none), (22, some (Blk.mk (i64s (wideL k m l) ++ setCells (zeros 1 (TI.mk (Kind.int IntKind.i64) 1 8 [D.int IntKind.i64 (0 : Int)]).zero) 0 [D.int IntKind.i64 (clip m z)]) true))] 27)) (fun K => by kernel_rfl) ?_
        refine ⟨by rw [w64] <;> omega, k + 1, [(0, 22)], ⟨⟨by omega, by omega⟩, by omega⟩, ?_⟩
        rw [hsucc]
        (constructor <;> simp [hl, envOk, memOk, conv, St.get, St.blk, i64s, zeros, setCells])
      · refine awp_sx prog_ok hP hnt [(12, .bool true), (16, .bool false), (17, .bool false)] [] [] [0, 1, 2, 7, 8, 17] (by kernel_rfl) (G := fun K => decide ((↑k : Int) < (↑l.length : Int)) = true ∧ decide ((↑k : Int) < (↑n : Int)) = false ∧ false = false ∧ K (St.mk [(0, V.d (D.lst l.length (i16s l))), (1, V.d (D.int IntKind.i64 (↑n : Int))), (2, V.d (D.int IntKind.i64 m)), (7, V.own 0 0 k 1), (8, V.d (D.int IntKind.i64 (↑k : Int))), (17, V.d (D.bool false))] [(0, some (Blk.mk (i64s (wideL k m l)) true))] 10)) (fun K => by kernel_rfl) ?_
        refine ⟨by simp; omega, by simp; omega, rfl, awp_cond (b := false) rfl nofun fun _ => awp_exit ⟨(), [(0, 0)], trivial, ?_⟩⟩
        rw [← hfin (by omega), hwl]
        (constructor <;> simp [hl, envOk, memOk, conv, St.get, St.blk])
    · refine awp_sx prog_ok hP hnt [(12, .bool false), (17, .bool false)] [] [] [0, 1, 2, 7, 8, 17] (by kernel_rfl) (G := fun K => decide ((↑k : Int) < (↑l.length : Int)) = false ∧ false = false ∧ K (St.mk [(0, V.d (D.lst l.length (i16s l))), (1, V.d (D.int IntKind.i64 (↑n : Int))), (2, V.d (D.int IntKind.i64 m)), (7, V.own 0 0 k 1), (8, V.d (D.int IntKind.i64 (↑k : Int))), (17, V.d (D.bool false))] [(0, some (Blk.mk (i64s (wideL k m l)) true))] 10)) (fun K => by kernel_rfl) ?_
      refine ⟨by simp; omega, rfl, awp_cond (b := false) rfl nofun fun _ => awp_exit ⟨(), [(0, 0)], trivial, ?_⟩⟩
      rw [← hfin (by omega), hwl]
      (constructor <;> simp [hl, envOk, memOk, conv, St.get, St.blk])
  intro _ _
  refine awp_sx prog_ok hP hnt [] [] [] [6] (by kernel_rfl) (G := fun K => K (St.mk [(6, V.own 0 0 (wideL n m l).length 1)] [(0, some (Blk.mk (i64s (wideL n m l)) true))] 3)) (fun K => by kernel_rfl) ?_
  refine awp_ret ⟨.inl rfl, retOwn rfl rfl ?_⟩
  rw [List.drop_zero, List.take_of_length_le (by simp)]

/-- a list of numbers as a polynomial -/
theorem poly14_fn (l : List Int) (hn : l.length ≤ 2 ^ 40) (hl64 : In64 l) : Fn Try.prog 79 [.d (.lst l.length (i64s l))] [] (.d (rp (cp (polL l)))) [] := by
  refine fn0 (nt := 20) (res := [.tmp 2]) Try.func79 rfl (by decide) rfl rfl rfl rfl ?_
  intro Cx hP hnt hl
  have ho := ofP l hn hl64
  refine awp_sx prog_ok hP hnt [] [] [] [0] (by kernel_rfl) (G := fun K => K (St.mk [(0, V.d (D.lst l.length (i64s l)))] [] 1)) (fun K => by kernel_rfl) ?_
  refine awp_sx prog_ok hP hnt [] [] [] [0, 3] (by kernel_rfl) (G := fun K => K (St.mk [(0, V.d (D.lst l.length (i64s l))), (3, V.nil)] [] 2)) (fun K => by kernel_rfl) ?_
  refine awp_cut (ι := Unit) (fun _ => ⟨[(3, .own 0 0 l.length 1)], [(0, some ⟨i64s l, true⟩)], 1⟩) (fun _ => True) ?_ ?_
  · refine awp_sx prog_ok hP hnt [] [] [] [0, 3, 4] (by kernel_rfl) (G := fun K => K (St.mk [(0, V.d (D.lst l.length (i64s l))), (3, V.nil), (4, V.d (D.int IntKind.i64 (0 : Int)))] [] 3)) (fun K => by kernel_rfl) ?_
    refine awp_block ?_
    refine awp_loop (ι := Nat) (fun k => ⟨[(0, .d (.lst l.length (i64s l))), (3, .own 0 0 k 1), (4, .d (.int .i64 k))], [(0, some ⟨i64s (l.take k), true⟩)], 1⟩)
      (fun k => k ≤ l.length) (fun k => l.length - k) 0 [] (by omega) ?_ ?_
    · (constructor <;> simp [hl, envOk, memOk, conv, St.get, St.blk, i64s])
    intro k hk
    refine awp_seq_k fun K1 hK1 => ?_
    refine awp_sx prog_ok hP hnt [] [] [] [0, 3, 4, 8] (by kernel_rfl) (G := fun K => K (St.mk [(0, V.d (D.lst l.length (i64s l))), (3, V.own 0 0 k 1), (4, V.d (D.int IntKind.i64 (↑k : Int))), (8, V.d (D.bool (decide ((↑k : Int) < (↑l.length : Int)))))] [(0, some (Blk.mk (i64s (List.take k l)) true))] 5)) (fun K => by kernel_rfl) ?_
    refine awp_cond rfl (fun e => awp_skip (hK1 _ ?_)) (fun e => awp_exit ⟨(), [(0, 0)], trivial, ?_⟩)
    · simp at e
      obtain ⟨z, hz⟩ := get_ex (l := l) (i := k) e
      have hlk : (l.take k).length = k := by simp; omega
      have hsucc : l.take (k + 1) = l.take k ++ [z] := by rw [List.take_add_one, hz]; rfl
      refine awp_seq_k fun K2 hK2 => ?_
      refine awp_block ?_
      refine awp_x prog_ok hP hnt [] [] [some [.int .i64 z]] [0, 3, 4] (by kernel_rfl) (G := fun K => ((0 : Int) ≤ (↑k : Int) ∧ (↑k : Int) < (↑l.length : Int) ∧ ((↑k : Int).toNat + 1) * 1 ≤ (i64s l).length) ∧ (List.drop ((↑k : Int).toNat * 1) (i64s l))[0]? = some (D.int IntKind.i64 z) ∧ 1 = 1 ∧ ((i64s (List.take k l)).length = k * 1 ∧ (k + 1) * 8 ≤ 2 ^ 47) ∧ K (St.mk [(0, V.d (D.lst l.length (i64s l))), (3, V.own 11 0 (k + 1) 1), (4, V.d (D.int IntKind.i64 (↑k : Int)))] [(0, none), (11, some (Blk.mk (i64s (List.take k l) ++ setCells (zeros 1 (TI.mk (Kind.int IntKind.i64) 1 8 [D.int IntKind.i64 (0 : Int)]).zero) 0 [D.int IntKind.i64 z]) true))] 13)) (fun K => by kernel_rfl) ?_
      refine ⟨⟨by omega, by omega, by simp; omega⟩, by simp [hz], rfl, ⟨by rw [i64s_len, hlk]; omega, by omega⟩, hK2 _ ?_⟩
      refine awp_x prog_ok hP hnt [(10, .int .i64 (k + 1 : Nat))] [] [] [0, 3, 4] (by kernel_rfl) (G := fun K => IntKind.i64.wrap ((↑k : Int) + (1 : Int)) = (↑(k + 1) : Int) ∧ K (St.mk [(0, V.d (D.lst l.length (i64s l))), (3, V.own 11 0 (k + 1) 1), (4, V.d (D.int IntKind.i64 (↑(k + 1) : Int)))] [(0, none), (11, some (Blk.mk (i64s (List.take k l) ++ setCells (zeros 1 (TI.mk (Kind.int IntKind.i64) 1 8 [D.int IntKind.i64 (0 : Int)]).zero) 0 [D.int IntKind.i64 z]) true))] 16)) (fun K => by kernel_rfl) ?_
      refine ⟨by rw [w64] <;> omega, k + 1, [(0, 11)], ⟨by omega, by omega⟩, ?_⟩
      rw [hsucc]
      (constructor <;> simp [hl, envOk, memOk, conv, St.get, St.blk, i64s, zeros, setCells])
    · simp at e
      have : k = l.length := by omega
      subst this
      rw [List.take_length]
      (constructor <;> simp [hl, envOk, memOk, conv, St.get, St.blk])
  intro _ _
  refine awp_sx prog_ok hP hnt [] [.val (.d (rp (cp (polL l))))] [] [2] (by kernel_rfl) (G := fun K => Fn Try.prog 51 [V.d (D.lst l.length (List.take (l.length * 1) (List.drop 0 (i64s l))))] [] (V.d (rp (cp (polL l)))) [] ∧ K (St.mk [(2, V.d (rp (cp (polL l))))] [(0, some (Blk.mk (i64s l) false))] 4)) (fun K => by kernel_rfl) ?_
  rw [List.drop_zero, List.take_of_length_le (by simp)]
  exact ⟨ho, awp_ret ⟨.inl rfl, retD rfl⟩⟩
end Go.Abs

set_option linter.unusedVariables false
set_option linter.unusedSimpArgs false
namespace Go.Abs
open Go Go.Proofs Poly
set_option maxRecDepth 100000

/-- sign changes among the first values, and the last value other than 0 -/
def vr (F : Nat → Int) : Nat → Nat × Int
  | 0 => (0, 0)
  | k + 1 => if F k = 0 then vr F k else (if (vr F k).2 ≠ 0 ∧ (vr F k).2.sign ≠ (F k).sign then (vr F k).1 + 1 else (vr F k).1, F k)
noncomputable def vars (f : Poly) : Nat := (vr f.c f.sz).1

end Go.Abs

set_option linter.unusedVariables false
set_option linter.unusedSimpArgs false
namespace Go.Abs
open Go Go.Proofs Poly
set_option maxRecDepth 100000

theorem wideL_len (n : Nat) (m : Int) (l : List Int) : (wideL n m l).length ≤ n := by unfold wideL; simp; omega
theorem clip_abs {m : Int} (h : 0 ≤ m) (x : Int) : (clip m x).natAbs ≤ m.natAbs := by unfold clip; omega
theorem wideL_abs {n : Nat} {m : Int} (h : 0 ≤ m) {l : List Int} : ∀ z ∈ wideL n m l, z.natAbs ≤ m.natAbs := fun z hz => by
  unfold wideL at hz
  obtain ⟨x, _, rfl⟩ := List.mem_map.1 hz
  exact clip_abs h x
end Go.Abs

set_option linter.unusedVariables false
set_option linter.unusedSimpArgs false
namespace Go.Abs
open Go Go.Proofs Poly
set_option maxRecDepth 100000

theorem i64s_take (l : List Int) (n : Nat) : (i64s l).take n = i64s (l.take n) := by simp [i64s, List.map_take]
theorem i64s_at {l : List Int} {k : Nat} {z : Int} (h : l[k]? = some z) : (List.drop ((k : Int).toNat * 1) (i64s l))[0]? = some (D.int .i64 z) := by simp [h]

theorem cs_polL (l : List Int) : cs (polL l) = l.take (polL l).sz := by
  apply List.ext_getElem?
  intro k
  have hsz := polL_sz l
  rw [List.getElem?_take]
  by_cases h : k < (polL l).sz
  · rw [if_pos h, cs_get _ _ h, polL_c, List.getD_eq_getElem?_getD]
    obtain ⟨z, hz⟩ := get_ex (l := l) (i := k) (by omega)
    rw [hz]; rfl
  · rw [if_neg h, List.getElem?_eq_none (by simp; omega)]

theorem trim11_fn (l : List Int) (hn : l.length ≤ 2 ^ 40) : Fn Try.prog 175 [.d (.lst l.length (i64s l))] [] (.d (.lst (polL l).sz (i64s (cs (polL l))))) [] := by
  refine fn0 (nt := 21) (res := [.tmp 2]) Try.func175 rfl (by decide) rfl rfl rfl rfl ?_
  intro Cx hP hnt hl
  obtain ⟨f, hf⟩ : ∃ f, f = polL l := ⟨_, rfl⟩
  have hfs : f.sz ≤ l.length := hf ▸ polL_sz l
  have hcs := cs_polL l
  rw [← hf] at hcs ⊢
  refine awp_sx prog_ok hP hnt [] [] [] [0] (by kernel_rfl) (G := fun K => K (St.mk [(0, V.d (D.lst l.length (i64s l)))] [] 1)) (fun K => by kernel_rfl) ?_
  refine awp_sx prog_ok hP hnt [] [] [] [0, 3] (by kernel_rfl) (G := fun K => K (St.mk [(0, V.d (D.lst l.length (i64s l))), (3, V.d (D.int IntKind.i64 (↑l.length : Int)))] [] 4)) (fun K => by kernel_rfl) ?_
  refine awp_cut (ι := Unit) (fun _ => ⟨[(0, .d (.lst l.length (i64s l))), (3, .d (.int .i64 f.sz))], [], 0⟩) (fun _ => True) ?_ ?_
  · refine awp_block ?_
    refine awp_loop (ι := Nat) (fun n => ⟨[(0, .d (.lst l.length (i64s l))), (3, .d (.int .i64 n))], [], 0⟩) (fun n => n ≤ l.length ∧ zdeg f.c n = f.sz) (fun n => n) l.length [] ⟨Nat.le_refl _, zdeg_sz hfs⟩ ?_ ?_
    · (constructor <;> simp [hl, envOk, memOk, conv, St.get, St.blk])
    intro n ⟨hn2, hz⟩
    refine awp_seq_k fun K2 hK2 => ?_
    by_cases h0 : n = 0
    · subst h0
      refine awp_sx prog_ok hP hnt [(7, .bool false), (15, .bool false)] [] [] [0, 3, 15] (by kernel_rfl) (G := fun K => decide ((↑0 : Int) > (0 : Int)) = false ∧ false = false ∧ K (St.mk [(0, V.d (D.lst l.length (i64s l))), (3, V.d (D.int IntKind.i64 (↑0 : Int))), (15, V.d (D.bool false))] [] 10)) (fun K => by kernel_rfl) ?_
      refine ⟨rfl, rfl, awp_cond (b := false) rfl nofun fun _ => awp_exit ⟨(), [], trivial, ?_⟩⟩
      rw [← hz]
      (constructor <;> simp [hl, envOk, memOk, conv, St.get, St.blk, zdeg])
    · obtain ⟨z, hz1⟩ := get_ex (l := l) (i := n - 1) (by omega)
      have hzc : f.c (n - 1) = z := by rw [hf, polL_c, List.getD_eq_getElem?_getD, hz1]; rfl
      refine awp_sx prog_ok hP hnt [(7, .bool true), (11, .int .i64 (n - 1 : Nat))] [] [some [.int .i64 z]] [0, 3, 15] (by kernel_rfl) (G := fun K => decide ((↑n : Int) > (0 : Int)) = true ∧ IntKind.i64.wrap ((↑n : Int) - (1 : Int)) = (↑(n - 1) : Int) ∧ ((0 : Int) ≤ (↑(n - 1) : Int) ∧ (↑(n - 1) : Int) < (↑l.length : Int) ∧ ((↑(n - 1) : Int).toNat + 1) * 1 ≤ (i64s l).length) ∧ (List.drop ((↑(n - 1) : Int).toNat * 1) (i64s l))[0]? = some (D.int IntKind.i64 z) ∧ K (St.mk [(0, V.d (D.lst l.length (i64s l))), (3, V.d (D.int IntKind.i64 (↑n : Int))), (15, V.d (D.bool (z == (0 : Int))))] [] 10)) (fun K => by kernel_rfl) ?_
      refine ⟨by simp; omega, by rw [w64] <;> omega, ⟨by omega, by omega, by simp; omega⟩, i64s_at hz1, ?_⟩
      refine awp_cond rfl (fun hb => awp_skip (hK2 _ ?_)) (fun hb => awp_exit ⟨(), [], trivial, ?_⟩)
      · simp at hb
        refine awp_block ?_
        refine awp_x prog_ok hP hnt [(17, .int .i64 (n - 1 : Nat))] [] [] [0, 3] (by kernel_rfl) (G := fun K => IntKind.i64.wrap ((↑n : Int) - (1 : Int)) = (↑(n - 1) : Int) ∧ K (St.mk [(0, V.d (D.lst l.length (i64s l))), (3, V.d (D.int IntKind.i64 (↑(n - 1) : Int)))] [] 13)) (fun K => by kernel_rfl) ?_
        refine ⟨by rw [w64] <;> omega, n - 1, [], ⟨⟨by omega, ?_⟩, by omega⟩, ?_⟩
        · rw [← hz]; exact (zdeg_zero (by omega) (by rw [hzc]; exact hb)).symm
        · (constructor <;> simp [hl, envOk, memOk, conv, St.get, St.blk])
      · simp at hb
        have := zdeg_stop (f := f.c) (show 0 < n by omega) (by rw [hzc]; exact hb)
        rw [← hz, this]
        (constructor <;> simp [hl, envOk, memOk, conv, St.get, St.blk])
  intro _ _
  refine awp_sx prog_ok hP hnt [] [] [] [2] (by kernel_rfl) (G := fun K => ((0 : Int) ≤ (↑f.sz : Int) ∧ (↑f.sz : Int) ≤ (↑l.length : Int)) ∧ K (St.mk [(2, V.d (D.lst (↑f.sz : Int).toNat (List.take ((↑f.sz : Int).toNat * 1) (i64s l))))] [] 4)) (fun K => by kernel_rfl) ?_
  refine ⟨⟨by omega, by omega⟩, awp_ret ⟨.inl rfl, retD ?_⟩⟩
  rw [hcs, ← i64s_take]
  simp [St.get, lookup_one]

/-- Horner's scheme for f(x + c): the coefficients after k steps -/
def hn (F : Nat → Int) (L : Nat) (c : Int) : Nat → Nat → Int
  | 0, _ => 0
  | k + 1, i => (if i = 0 then F (L - 1 - k) else hn F L c k (i - 1)) + c * hn F L c k i
def hS : Nat → Nat
  | 0 => 0
  | k + 1 => 129 * hS k + 100
/-- the next row while it is filled -/
def nx (o : Nat → Int) (c : Int) (j i : Nat) : Int := if i < j then (if i = 0 then 0 else o (i - 1)) + c * o i else if i = j ∧ i ≠ 0 then o (i - 1) else 0

end Go.Abs

set_option linter.unusedVariables false
set_option linter.unusedSimpArgs false
namespace Go.Abs
open Go Go.Proofs Poly
set_option maxRecDepth 100000

end Go.Abs

set_option linter.unusedVariables false
set_option linter.unusedSimpArgs false
namespace Go.Abs
open Go Go.Proofs Poly
set_option maxRecDepth 100000

theorem rsign_fn (x : Int) (p : Nat) (hx : (dig x.natAbs).length ≤ 2 ^ 36) (hp : (dig p).length ≤ 2 ^ 36) (p0 : p ≠ 0) : Fn Try.prog 108 [.agg (rt x p)] [] (.d (.int .i64 x.sign)) [] := by
  refine fn0 (nt := 12) (res := [.tmp 2]) Try.func108 rfl (by decide) rfl rfl rfl rfl ?_
  intro Cx hP hnt hl
  have k1 := parts_fn x p (by omega) (by omega) p0
  have s1 := sign_fn (decide (x < 0)) (dig x.natAbs) (by omega) (dig_lt _)
  rw [ival_iz, ← iz_ic] at s1
  refine awp_sx prog_ok hP hnt [] [] [] [1] (by kernel_rfl) (G := fun K => K (St.mk [(1, V.ptr 0 0)] [(0, some (Blk.mk [D.bool (decide (x < (0 : Int))), du (dig x.natAbs), du (dig p)] true))] 2)) (fun K => by kernel_rfl) ?_
  refine awp_sx prog_ok hP hnt [] [.val (.tup [.agg (iz x), .agg (iz (p : Nat))])] [some (rt x p)] [3] (by kernel_rfl) (G := fun K => ([D.bool (decide (x < (0 : Int))), du (dig x.natAbs), du (dig p)][0]? = some (D.bool (decide (x < (0 : Int)))) ∧ [D.bool (decide (x < (0 : Int))), du (dig x.natAbs), du (dig p)][1]? = some (du (dig x.natAbs)) ∧ [D.bool (decide (x < (0 : Int))), du (dig x.natAbs), du (dig p)][2]? = some (du (dig p))) ∧ Fn Try.prog 184 [V.agg [D.bool (decide (x < (0 : Int))), du (dig x.natAbs), du (dig p)]] [] (V.tup [V.agg [D.bool (decide (x < (0 : Int))), du (dig x.natAbs)], V.agg [D.bool (decide ((↑p : Int) < (0 : Int))), du (dig (↑p : Int).natAbs)]]) [] ∧ 0 + (iz x).length ≤ (TI.mk (Kind.struct [(0, 1), (1, 1)]) 2 32 [D.bool false, D.lst 0 []]).zero.length ∧ 0 + (iz (↑p : Int)).length ≤ (TI.mk (Kind.struct [(0, 1), (1, 1)]) 2 32 [D.bool false, D.lst 0 []]).zero.length ∧ K (St.mk [(3, V.ptr 7 0)] [(0, some (Blk.mk [D.bool (decide (x < (0 : Int))), du (dig x.natAbs), du (dig p)] true)), (7, some (Blk.mk [D.bool (decide (x < (0 : Int))), du (dig x.natAbs)] true)), (8, some (Blk.mk [D.bool (decide ((↑p : Int) < (0 : Int))), du (dig (↑p : Int).natAbs)] true))] 11)) (fun K => by kernel_rfl) ?_
  refine ⟨⟨rfl, rfl, rfl⟩, k1, by simp [iz], by simp [iz], ?_⟩
  refine awp_sx prog_ok hP hnt [] [.val (.d (.int .i64 x.sign))] [some (iz x)] [2] (by kernel_rfl) (G := fun K => ([D.bool (decide (x < (0 : Int))), du (dig x.natAbs)][0]? = some (D.bool (decide (x < (0 : Int)))) ∧ [D.bool (decide (x < (0 : Int))), du (dig x.natAbs)][1]? = some (du (dig x.natAbs))) ∧ Fn Try.prog 102 [V.agg [D.bool (decide (x < (0 : Int))), du (dig x.natAbs)]] [] (V.d (D.int IntKind.i64 x.sign)) [] ∧ K (St.mk [(2, V.d (D.int IntKind.i64 x.sign))] [(0, some (Blk.mk [D.bool (decide (x < (0 : Int))), du (dig x.natAbs), du (dig p)] true)), (7, some (Blk.mk [D.bool (decide (x < (0 : Int))), du (dig x.natAbs)] true)), (8, some (Blk.mk [D.bool (decide ((↑p : Int) < (0 : Int))), du (dig (↑p : Int).natAbs)] true))] 14)) (fun K => by kernel_rfl) ?_
  exact ⟨⟨rfl, rfl⟩, s1, awp_ret ⟨.inl rfl, retD rfl⟩⟩

theorem rof_fn (n : Int) (h1 : -9223372036854775808 ≤ n) (h2 : n ≤ 9223372036854775807) : Fn Try.prog 191 [.d (.int .i64 n)] [] (.agg (rt n 1)) [] := by
  refine fn0 (nt := 7) (res := [.cell 2 78]) Try.func191 rfl (by decide) rfl rfl rfl rfl ?_
  intro Cx hP hnt hl
  have h := iOf_fn n h1 h2
  have ho := one_fn
  refine awp_sx prog_ok hP hnt [] [] [] [0, 2] (by kernel_rfl) (G := fun K => K (St.mk [(0, V.d (D.int IntKind.i64 n)), (2, V.ptr 0 0)] [(0, some (Blk.mk [D.bool false, D.lst 0 [], D.lst 0 []] true))] 1)) (fun K => by kernel_rfl) ?_
  refine awp_sx prog_ok hP hnt [] [.val (.agg (iz n)), .val (.d (du (dig 1)))] [] [2] (by kernel_rfl) (G := fun K => Fn Try.prog 74 [V.d (D.int IntKind.i64 n)] [] (V.agg [D.bool (decide (n < (0 : Int))), du (dig n.natAbs)]) [] ∧ Fn Try.prog 183 [] [] (V.d (du (dig 1))) [] ∧ 0 + (setCells (setCells (TI.mk (Kind.struct [(0, 2), (2, 1)]) 3 56 [D.bool false, D.lst 0 [], D.lst 0 []]).zero 0 (iz n)) 2 [du (dig 1)]).length ≤ [D.bool false, D.lst 0 [], D.lst 0 []].length ∧ K (St.mk [(2, V.ptr 0 0)] [(0, some (Blk.mk [D.bool (decide (n < (0 : Int))), du (dig n.natAbs), du (dig 1)] true))] 6)) (fun K => by kernel_rfl) ?_
  exact ⟨h, ho, by simp [setCells_len], awp_ret ⟨.inl rfl, retC (l := true) rfl rfl rfl rfl⟩⟩

theorem abs14_fn (x : Int) (h : x.natAbs ≤ 2 ^ 62) : Fn Try.prog 188 [.d (.int .i64 x)] [] (.d (.int .i64 (x.natAbs : Nat))) [] := by
  refine fn0 (nt := 8) (res := [.tmp 2]) Try.func188 rfl (by decide) rfl rfl rfl rfl ?_
  intro Cx hP hnt hl
  refine awp_sx prog_ok hP hnt [] [] [] [0] (by kernel_rfl) (G := fun K => K (St.mk [(0, V.d (D.int IntKind.i64 x))] [] 1)) (fun K => by kernel_rfl) ?_
  refine awp_seq_k fun K hK => ?_
  refine awp_sx prog_ok hP hnt [] [] [] [0, 4] (by kernel_rfl) (G := fun K => K (St.mk [(0, V.d (D.int IntKind.i64 x)), (4, V.d (D.bool (decide (x < (0 : Int)))))] [] 3)) (fun K => by kernel_rfl) ?_
  refine awp_cond rfl (fun e => ?_) (fun e => awp_skip (hK _ ?_))
  · simp at e
    refine awp_sx prog_ok hP hnt [(6, .int .i64 (x.natAbs : Nat))] [] [] [2] (by kernel_rfl) (G := fun K => IntKind.i64.wrap ((0 : Int) - x) = (↑x.natAbs : Int) ∧ K (St.mk [(2, V.d (D.int IntKind.i64 (↑x.natAbs : Int)))] [] 6)) (fun K => by kernel_rfl) ?_
    exact ⟨by rw [w64] <;> omega, awp_ret ⟨.inl rfl, retD rfl⟩⟩
  · simp at e
    refine awp_sx prog_ok hP hnt [] [] [] [2] (by kernel_rfl) (G := fun K => K (St.mk [(2, V.d (D.int IntKind.i64 x))] [] 5)) (fun K => by kernel_rfl) ?_
    refine awp_ret ⟨.inl rfl, retD ?_⟩
    rw [show ((x.natAbs : Nat) : Int) = x by omega]; rfl

theorem rcauchy_fn (l : List Int) (hn0 : l.length ≤ 100) (hb : ∀ z ∈ l, z.natAbs ≤ 100000) : Fn Try.prog 103 [.d (.lst l.length (i64s l))] [] (.d (.int .i64 (cauchy (polL l) : Nat))) [] := by
  refine fn0 (nt := 39) (res := [.tmp 2]) Try.func103 rfl (by decide) rfl rfl rfl rfl ?_
  intro Cx hP hnt hl
  have ht := trim11_fn l (by omega)
  obtain ⟨f, hf⟩ : ∃ f, f = polL l := ⟨_, rfl⟩
  have hcb : ∀ k, (f.c k).natAbs ≤ 100000 := fun k => by
    rw [hf, polL_c, List.getD_eq_getElem?_getD]
    cases e : l[k]? with
    | none => simp
    | some z => exact hb z (List.mem_of_getElem? e)
  have hsz : f.sz ≤ 100 := hf ▸ Nat.le_trans (polL_sz l) hn0
  rw [← hf] at ht ⊢
  refine awp_sx prog_ok hP hnt [] [] [] [0] (by kernel_rfl) (G := fun K => K (St.mk [(0, V.d (D.lst l.length (i64s l)))] [] 1)) (fun K => by kernel_rfl) ?_
  refine awp_sx prog_ok hP hnt [] [.val (.d (.lst f.sz (i64s (cs f))))] [] [0] (by kernel_rfl) (G := fun K => Fn Try.prog 175 [V.d (D.lst l.length (i64s l))] [] (V.d (D.lst f.sz (i64s (cs f)))) [] ∧ K (St.mk [(0, V.d (D.lst f.sz (i64s (cs f))))] [] 4)) (fun K => by kernel_rfl) ?_
  refine ⟨ht, ?_⟩
  refine awp_seq_k fun K hK => ?_
  refine awp_sx prog_ok hP hnt [] [] [] [0, 10] (by kernel_rfl) (G := fun K => K (St.mk [(0, V.d (D.lst f.sz (i64s (cs f)))), (10, V.d (D.bool (decide ((↑f.sz : Int) < (2 : Int)))))] [] 7)) (fun K => by kernel_rfl) ?_
  refine awp_cond rfl (fun e => ?_) (fun e => awp_skip (hK _ ?_))
  · simp at e
    have h0 : cauchy f = 0 := if_pos (by omega)
    rw [h0]
    refine awp_sx prog_ok hP hnt [] [] [] [2] (by kernel_rfl) (G := fun K => K (St.mk [(2, V.d (D.int IntKind.i64 (0 : Int)))] [] 8)) (fun K => by kernel_rfl) ?_
    exact awp_ret ⟨.inl rfl, retD rfl⟩
  simp at e
  obtain ⟨n, hn1⟩ : ∃ n, n + 1 = f.sz := ⟨f.sz - 1, by omega⟩
  have hlc0 : f.lc ≠ 0 := lc_ne (fun h => by have := eq_zero.1 h; omega)
  have hcn : f.c n = f.lc := by unfold lc; congr 1; omega
  have hlcb : f.lc.natAbs ≤ 100000 := hcn ▸ hcb n
  obtain ⟨L, hL⟩ : ∃ L, L = f.lc.natAbs := ⟨_, rfl⟩
  have hL0 : 0 < L := by omega
  have ha := abs14_fn f.lc (by omega)
  rw [← hL] at ha hlcb
  have hlen : (cs f).length = f.sz := cs_len f
  have hg0 : (cs f)[n]? = some f.lc := by rw [cs_get f n (by omega), hcn]
  have hc : cauchy f = cm f n + 1 := by unfold cauchy; rw [if_neg (by omega), show f.sz - 1 = n by omega]
  have hcm : ∀ k, cm f k < 2 ^ 17 := cm_lt hlc0 (fun k => by have := hcb k; omega)
  refine awp_sx prog_ok hP hnt [(14, .int .i64 n)] [.val (.d (.int .i64 L))] [some [.int .i64 f.lc]] [0, 3] (by kernel_rfl) (G := fun K => IntKind.i64.wrap ((↑f.sz : Int) - (1 : Int)) = (↑n : Int) ∧ ((0 : Int) ≤ (↑n : Int) ∧ (↑n : Int) < (↑f.sz : Int) ∧ ((↑n : Int).toNat + 1) * 1 ≤ (i64s (cs f)).length) ∧ (List.drop ((↑n : Int).toNat * 1) (i64s (cs f)))[0]? = some (D.int IntKind.i64 f.lc) ∧ Fn Try.prog 188 [V.d (D.int IntKind.i64 f.lc)] [] (V.d (D.int IntKind.i64 (↑L : Int))) [] ∧ K (St.mk [(0, V.d (D.lst f.sz (i64s (cs f)))), (3, V.d (D.int IntKind.i64 (↑L : Int)))] [] 15)) (fun K => by kernel_rfl) ?_
  refine ⟨by rw [w64] <;> omega, ⟨by omega, by omega, by simp; omega⟩, i64s_at hg0, ha, ?_⟩
  refine awp_sx prog_ok hP hnt [] [] [] [0, 3, 4] (by kernel_rfl) (G := fun K => K (St.mk [(0, V.d (D.lst f.sz (i64s (cs f)))), (3, V.d (D.int IntKind.i64 (↑L : Int))), (4, V.d (D.int IntKind.i64 (0 : Int)))] [] 16)) (fun K => by kernel_rfl) ?_
  refine awp_cut (ι := Unit) (fun _ => ⟨[(4, .d (.int .i64 (cm f n)))], [], 0⟩) (fun _ => True) ?_ ?_
  · refine awp_sx prog_ok hP hnt [] [] [] [0, 3, 4, 5] (by kernel_rfl) (G := fun K => K (St.mk [(0, V.d (D.lst f.sz (i64s (cs f)))), (3, V.d (D.int IntKind.i64 (↑L : Int))), (4, V.d (D.int IntKind.i64 (0 : Int))), (5, V.d (D.int IntKind.i64 (0 : Int)))] [] 17)) (fun K => by kernel_rfl) ?_
    refine awp_block ?_
    refine awp_loop (ι := Nat) (fun k => ⟨[(0, .d (.lst f.sz (i64s (cs f)))), (3, .d (.int .i64 L)), (4, .d (.int .i64 (cm f k))), (5, .d (.int .i64 k))], [], 0⟩) (fun k => k ≤ n) (fun k => n - k) 0 [] (by omega) ?_ ?_
    · (constructor <;> simp [hl, envOk, memOk, conv, St.get, St.blk, cm])
    intro k hk
    refine awp_seq_k fun K1 hK1 => ?_
    refine awp_sx prog_ok hP hnt [(21, .int .i64 n)] [] [] [0, 3, 4, 5, 22] (by kernel_rfl) (G := fun K => IntKind.i64.wrap ((↑f.sz : Int) - (1 : Int)) = (↑n : Int) ∧ K (St.mk [(0, V.d (D.lst f.sz (i64s (cs f)))), (3, V.d (D.int IntKind.i64 (↑L : Int))), (4, V.d (D.int IntKind.i64 (↑(cm f k) : Int))), (5, V.d (D.int IntKind.i64 (↑k : Int))), (22, V.d (D.bool (decide ((↑k : Int) < (↑n : Int)))))] [] 5)) (fun K => by kernel_rfl) ?_
    refine ⟨by rw [w64] <;> omega, awp_cond rfl (fun e2 => awp_skip (hK1 _ ?_)) (fun e2 => awp_exit ⟨(), [], trivial, ?_⟩)⟩
    · simp at e2
      have hg : (cs f)[k]? = some (f.c k) := cs_get f k (by omega)
      have hb1 := hcb k
      have hab := abs14_fn (f.c k) (by omega)
      obtain ⟨z, hz⟩ : ∃ z, z = (f.c k).natAbs := ⟨_, rfl⟩
      rw [← hz] at hab hb1
      have hq : ((z + L - 1 : Nat) : Int).tdiv L = ((z + L - 1) / L : Nat) := rfl
      have hqb := ceil_le (a := z) hL0
      have hmx : cm f (k + 1) = max (cm f k) ((z + L - 1) / L) := by rw [cm, hz, hL]
      have hck := hcm k
      refine awp_seq_k fun K2 hK2 => ?_
      refine awp_block ?_
      refine awp_x prog_ok hP hnt [(32, .int .i64 (z + L : Nat)), (33, .int .i64 (z + L - 1 : Nat)), (35, .int .i64 ((z + L - 1) / L : Nat)), (36, .int .i64 (cm f (k + 1) : Nat))] [.val (.d (.int .i64 z))] [some [.int .i64 (f.c k)]] [0, 3, 4, 5] (by kernel_rfl) (G := fun K => ((0 : Int) ≤ (↑k : Int) ∧ (↑k : Int) < (↑f.sz : Int) ∧ ((↑k : Int).toNat + 1) * 1 ≤ (i64s (cs f)).length) ∧ (List.drop ((↑k : Int).toNat * 1) (i64s (cs f)))[0]? = some (D.int IntKind.i64 (f.c k)) ∧ Fn Try.prog 188 [V.d (D.int IntKind.i64 (f.c k))] [] (V.d (D.int IntKind.i64 (↑z : Int))) [] ∧ IntKind.i64.wrap ((↑z : Int) + (↑L : Int)) = (↑(z + L) : Int) ∧ IntKind.i64.wrap ((↑(z + L) : Int) - (1 : Int)) = (↑(z + L - 1) : Int) ∧ (↑L : Int) ≠ (0 : Int) ∧ IntKind.i64.wrap ((↑(z + L - 1) : Int).tdiv (↑L : Int)) = (↑((z + L - 1) / L) : Int) ∧ (if (↑((z + L - 1) / L) : Int) > (↑(cm f k) : Int) then (↑((z + L - 1) / L) : Int) else (↑(cm f k) : Int)) = (↑(cm f (k + 1)) : Int) ∧ K (St.mk [(0, V.d (D.lst f.sz (i64s (cs f)))), (3, V.d (D.int IntKind.i64 (↑L : Int))), (4, V.d (D.int IntKind.i64 (↑(cm f (k + 1)) : Int))), (5, V.d (D.int IntKind.i64 (↑k : Int)))] [] 18)) (fun K => by kernel_rfl) ?_
      obtain ⟨w, hw⟩ : ∃ w, w = (z + L - 1) / L := ⟨_, rfl⟩
      rw [← hw] at hq hqb hmx ⊢
      refine ⟨⟨by omega, by omega, by simp; omega⟩, i64s_at hg, hab, by rw [w64] <;> omega, by rw [w64] <;> omega, by omega, by rw [hq, w64] <;> omega, by rw [hmx]; split <;> omega, hK2 _ ?_⟩
      refine awp_x prog_ok hP hnt [(24, .int .i64 (k + 1 : Nat))] [] [] [0, 3, 4, 5] (by kernel_rfl) (G := fun K => IntKind.i64.wrap ((↑k : Int) + (1 : Int)) = (↑(k + 1) : Int) ∧ K (St.mk [(0, V.d (D.lst f.sz (i64s (cs f)))), (3, V.d (D.int IntKind.i64 (↑L : Int))), (4, V.d (D.int IntKind.i64 (↑(cm f (k + 1)) : Int))), (5, V.d (D.int IntKind.i64 (↑(k + 1) : Int)))] [] 21)) (fun K => by kernel_rfl) ?_
      refine ⟨by rw [w64] <;> omega, k + 1, [], ⟨by omega, by omega⟩, ?_⟩
      (constructor <;> simp [hl, envOk, memOk, conv, St.get, St.blk])
    · simp at e2
      have : k = n := by omega
      subst this
      (constructor <;> simp [hl, envOk, memOk, conv, St.get, St.blk])
  intro _ _
  refine awp_sx prog_ok hP hnt [(38, .int .i64 (cm f n + 1 : Nat))] [] [] [2] (by kernel_rfl) (G := fun K => IntKind.i64.wrap ((1 : Int) + (↑(cm f n) : Int)) = (↑(cm f n + 1) : Int) ∧ K (St.mk [(2, V.d (D.int IntKind.i64 (↑(cm f n + 1) : Int)))] [] 3)) (fun K => by kernel_rfl) ?_
  rw [hc]
  exact ⟨by have := hcm n; rw [w64] <;> omega, awp_ret ⟨.inl rfl, retD rfl⟩⟩
end Go.Abs

set_option linter.unusedVariables false
set_option linter.unusedSimpArgs false
namespace Go.Abs
open Go Go.Proofs Poly
set_option maxRecDepth 100000

theorem rlog_fn (n : Nat) (h : n ≤ 2 ^ 40) : Fn Try.prog 106 [.d (.int .i64 n)] [] (.d (.int .i64 (blen (n - 1) : Nat))) [] := by
  refine fn0 (nt := 13) (res := [.tmp 2]) Try.func106 rfl (by decide) rfl rfl rfl rfl ?_
  intro Cx hP hnt hl
  have hB : blen (n - 1) ≤ 41 := blen_iff.2 (by omega)
  obtain ⟨r, hr⟩ : ∃ r, r = blen (n - 1) := ⟨_, rfl⟩
  have hiff : ∀ k, k < r ↔ 2 ^ k < n := fun k => by
    have := blen_iff (n := n - 1) (k := k)
    rw [← hr] at this
    constructor
    · intro h1
      have h2 : ¬ n - 1 < 2 ^ k := fun h3 => by have := this.2 h3; omega
      have h4 : 0 < 2 ^ k := Nat.pow_pos (by omega)
      omega
    · intro h1
      have h2 : ¬ r ≤ k := fun h3 => by have := this.1 h3; omega
      omega
  rw [← hr] at hB ⊢
  have hpw : ∀ k, k ≤ 41 → 2 ^ k ≤ 2 ^ 41 := fun k hk => Nat.pow_le_pow_right (by omega) hk
  refine awp_sx prog_ok hP hnt [] [] [] [0] (by kernel_rfl) (G := fun K => K (St.mk [(0, V.d (D.int IntKind.i64 (↑n : Int)))] [] 1)) (fun K => by kernel_rfl) ?_
  refine awp_sx prog_ok hP hnt [] [] [] [0, 3] (by kernel_rfl) (G := fun K => K (St.mk [(0, V.d (D.int IntKind.i64 (↑n : Int))), (3, V.d (D.int IntKind.i64 (0 : Int)))] [] 2)) (fun K => by kernel_rfl) ?_
  refine awp_cut (ι := Unit) (fun _ => ⟨[(3, .d (.int .i64 r))], [], 0⟩) (fun _ => True) ?_ ?_
  · refine awp_sx prog_ok hP hnt [] [] [] [0, 3, 4] (by kernel_rfl) (G := fun K => K (St.mk [(0, V.d (D.int IntKind.i64 (↑n : Int))), (3, V.d (D.int IntKind.i64 (0 : Int))), (4, V.d (D.int IntKind.i64 (1 : Int)))] [] 3)) (fun K => by kernel_rfl) ?_
    refine awp_block ?_
    refine awp_loop (ι := Nat) (fun k => ⟨[(0, .d (.int .i64 n)), (3, .d (.int .i64 k)), (4, .d (.int .i64 ((2 : Int) ^ k)))], [], 0⟩) (fun k => k ≤ r) (fun k => r - k) 0 [] (by omega) ?_ ?_
    · (constructor <;> simp [hl, envOk, memOk, conv, St.get, St.blk])
    intro k hk
    refine awp_seq_k fun K1 hK1 => ?_
    refine awp_sx prog_ok hP hnt [] [] [] [0, 3, 4, 7] (by kernel_rfl) (G := fun K => K (St.mk [(0, V.d (D.int IntKind.i64 (↑n : Int))), (3, V.d (D.int IntKind.i64 (↑k : Int))), (4, V.d (D.int IntKind.i64 ((2 : Int) ^ k))), (7, V.d (D.bool (decide ((2 : Int) ^ k < (↑n : Int)))))] [] 3)) (fun K => by kernel_rfl) ?_
    have hp := hpw k (by omega)
    have hpc : ((2 ^ k : Nat) : Int) = (2 : Int) ^ k := by simp
    obtain ⟨q, hq⟩ : ∃ q, q = 2 ^ k := ⟨_, rfl⟩
    have hifk := hiff k
    rw [← hq] at hp hpc hifk
    refine awp_cond rfl (fun e => awp_skip (hK1 _ ?_)) (fun e => awp_exit ⟨(), [], trivial, ?_⟩)
    · have e1 := of_decide_eq_true e
      have hlt : k < r := hifk.2 (by omega)
      have hp1 : (2 : Int) ^ (k + 1) = (2 : Int) ^ k * 2 := Int.pow_succ ..
      refine awp_seq_k fun K2 hK2 => ?_
      refine awp_block ?_
      refine awp_x prog_ok hP hnt [(11, .int .i64 (k + 1 : Nat))] [] [] [0, 3, 4] (by kernel_rfl) (G := fun K => IntKind.i64.wrap ((↑k : Int) + (1 : Int)) = (↑(k + 1) : Int) ∧ K (St.mk [(0, V.d (D.int IntKind.i64 (↑n : Int))), (3, V.d (D.int IntKind.i64 (↑(k + 1) : Int))), (4, V.d (D.int IntKind.i64 ((2 : Int) ^ k)))] [] 6)) (fun K => by kernel_rfl) ?_
      refine ⟨by rw [w64] <;> omega, hK2 _ ?_⟩
      refine awp_x prog_ok hP hnt [(9, .int .i64 ((2 : Int) ^ (k + 1)))] [] [] [0, 3, 4] (by kernel_rfl) (G := fun K => IntKind.i64.wrap ((2 : Int) ^ k * (2 : Int)) = (2 : Int) ^ (k + 1) ∧ K (St.mk [(0, V.d (D.int IntKind.i64 (↑n : Int))), (3, V.d (D.int IntKind.i64 (↑(k + 1) : Int))), (4, V.d (D.int IntKind.i64 ((2 : Int) ^ (k + 1))))] [] 9)) (fun K => by kernel_rfl) ?_
      refine ⟨by rw [hp1, w64] <;> omega, k + 1, [], ⟨by omega, by omega⟩, ?_⟩
      (constructor <;> simp [hl, envOk, memOk, conv, St.get, St.blk])
    · have e1 := of_decide_eq_false e
      have hkr : k = r := by
        rcases Nat.lt_or_ge k r with h1 | h1
        · have := hifk.1 h1; omega
        · omega
      subst hkr
      (constructor <;> simp [hl, envOk, memOk, conv, St.get, St.blk])
  intro _ _
  refine awp_sx prog_ok hP hnt [] [] [] [2] (by kernel_rfl) (G := fun K => K (St.mk [(2, V.d (D.int IntKind.i64 (↑r : Int)))] [] 2)) (fun K => by kernel_rfl) ?_
  exact awp_ret ⟨.inl rfl, retD rfl⟩

theorem cauchy_lt {f : Poly} {K : Nat} (h : ∀ k, (f.c k).natAbs < 2 ^ K) : cauchy f ≤ 2 ^ K := by
  unfold cauchy
  split
  · exact Nat.zero_le _
  · have := cm_lt (f := f) (lc_ne (fun h => by have := eq_zero.1 h; omega)) h (f.sz - 1)
    omega

theorem logP {i : Nat} {ps : List RI} (hi : i ≤ 12) (hp : W i ps) : Fn Try.prog 105 [.d (rp ps)] [] (.d (.int .i64 (blen (cauchy (pol ps) - 1) : Nat))) [] := by
  refine fn0 (nt := 13) (res := [.tmp 2]) Try.func105 rfl (by decide) rfl rfl rfl rfl ?_
  intro Cx hP hnt hl
  have hc := cauchyP hi hp
  have hcl := cauchy_lt hp.lv.bits
  have hlb := lvbits hi
  obtain ⟨KB, hKB⟩ : ∃ KB, KB = 1280 * 4 ^ i := ⟨_, rfl⟩
  rw [← hKB] at hcl hlb
  obtain ⟨c, hc0⟩ : ∃ c, c = cauchy (pol ps) := ⟨_, rfl⟩
  rw [← hc0] at hc hcl ⊢
  have hdl : ∀ y : Nat, y ≤ 2 ^ KB → (dig y).length ≤ 2 ^ 36 + 1 := fun y hy => by
    refine dig_len (Nat.lt_of_le_of_lt hy ?_)
    have h1 := pow32 (K := KB) (E := 2 ^ 36) (by omega)
    obtain ⟨E, hE⟩ : ∃ E, E = 2 ^ 36 := ⟨_, rfl⟩
    rw [← hE] at h1 ⊢
    rw [Nat.pow_succ]
    have := Nat.pow_pos (n := E) (show 0 < 4294967296 by omega)
    omega
  have hsg := sign_fn false (dig c) (by have := hdl c hcl; omega) (dig_lt _)
  rw [show ival false (dig c) = (c : Int) from by unfold ival sgn; rw [val_dig]; rfl, ← iz_nat'] at hsg
  have h1 := iOf_fn 1 (by decide) (by decide)
  refine awp_sx prog_ok hP hnt [] [] [] [0] (by kernel_rfl) (G := fun K => K (St.mk [(0, V.d (rp ps))] [] 1)) (fun K => by kernel_rfl) ?_
  refine awp_sx prog_ok hP hnt [] [.val (.agg (iz (c : Nat)))] [] [3] (by kernel_rfl) (G := fun K => Fn Try.prog 104 [V.d (rp ps)] [] (V.agg [D.bool (decide ((↑c : Int) < (0 : Int))), du (dig (↑c : Int).natAbs)]) [] ∧ 0 + (iz (↑c : Int)).length ≤ (TI.mk (Kind.struct [(0, 1), (1, 1)]) 2 32 [D.bool false, D.lst 0 []]).zero.length ∧ K (St.mk [(3, V.ptr 3 0)] [(3, some (Blk.mk [D.bool (decide ((↑c : Int) < (0 : Int))), du (dig (↑c : Int).natAbs)] true))] 5)) (fun K => by kernel_rfl) ?_
  refine ⟨hc, by simp [iz], ?_⟩
  refine awp_seq_k fun K hK => ?_
  refine awp_sx prog_ok hP hnt [] [.val (.d (.int .i64 (c : Int).sign))] [some (iz (c : Nat))] [3, 8] (by kernel_rfl) (G := fun K => ([D.bool (decide ((↑c : Int) < (0 : Int))), du (dig (↑c : Int).natAbs)][0]? = some (D.bool (decide ((↑c : Int) < (0 : Int)))) ∧ [D.bool (decide ((↑c : Int) < (0 : Int))), du (dig (↑c : Int).natAbs)][1]? = some (du (dig (↑c : Int).natAbs))) ∧ Fn Try.prog 102 [V.agg [D.bool (decide ((↑c : Int) < (0 : Int))), du (dig (↑c : Int).natAbs)]] [] (V.d (D.int IntKind.i64 (↑c : Int).sign)) [] ∧ K (St.mk [(3, V.ptr 3 0), (8, V.d (D.bool ((↑c : Int).sign == (0 : Int))))] [(3, some (Blk.mk [D.bool (decide ((↑c : Int) < (0 : Int))), du (dig (↑c : Int).natAbs)] true))] 8)) (fun K => by kernel_rfl) ?_
  refine ⟨⟨rfl, rfl⟩, hsg, ?_⟩
  refine awp_cond rfl (fun e => ?_) (fun e => awp_skip (hK _ ?_))
  · have e1 : c = 0 := by
      have := eq_of_beq e
      rw [Int.sign_eq_zero_iff_zero] at this
      omega
    subst e1
    refine awp_sx prog_ok hP hnt [] [] [] [2] (by kernel_rfl) (G := fun K => K (St.mk [(2, V.d (D.int IntKind.i64 (0 : Int)))] [(3, some (Blk.mk [D.bool (decide ((↑0 : Int) < (0 : Int))), du (dig (↑0 : Int).natAbs)] true))] 9)) (fun K => by kernel_rfl) ?_
    exact awp_ret ⟨.inl rfl, retD rfl⟩
  · have e1 : 0 < c := Nat.pos_of_ne_zero fun h => by subst h; simp at e
    have hsub := isub_fn false (decide ((1 : Int) < 0)) (dig c) (dig (1 : Int).natAbs) (by have := hdl c hcl; omega) (by have := dig_len (n := 1) (k := 1) (by decide); show (dig 1).length ≤ _; omega) (dig_lt _) (dig_lt _)
    rw [ival_iz, ← iz_ic, show ival false (dig c) = (c : Int) from by unfold ival sgn; rw [val_dig]; rfl, ← iz_nat', show (c : Int) - 1 = ((c - 1 : Nat) : Int) by omega] at hsub
    have hbl := ibitlen_fn false (dig (c - 1)) (by have := hdl (c - 1) (by omega); omega) (dig_lt _)
    rw [val_dig, ← iz_nat'] at hbl
    refine awp_sx prog_ok hP hnt [] [.val (.agg (iz 1)), .val (.agg (iz (c - 1 : Nat))), .val (.d (.int .i64 (blen (c - 1) : Nat)))] [some (iz (c : Nat))] [2] (by kernel_rfl) (G := fun K => ([D.bool (decide ((↑c : Int) < (0 : Int))), du (dig (↑c : Int).natAbs)][0]? = some (D.bool (decide ((↑c : Int) < (0 : Int)))) ∧ [D.bool (decide ((↑c : Int) < (0 : Int))), du (dig (↑c : Int).natAbs)][1]? = some (du (dig (↑c : Int).natAbs))) ∧ Fn Try.prog 74 [V.d (D.int IntKind.i64 (1 : Int))] [] (V.agg [D.bool (decide ((1 : Int) < (0 : Int))), du (dig (Int.natAbs (1 : Int)))]) [] ∧ Fn Try.prog 164 [V.agg [D.bool (decide ((↑c : Int) < (0 : Int))), du (dig (↑c : Int).natAbs)], V.agg [D.bool (decide ((1 : Int) < (0 : Int))), du (dig (Int.natAbs (1 : Int)))]] [] (V.agg [D.bool (decide ((↑(c - 1) : Int) < (0 : Int))), du (dig (↑(c - 1) : Int).natAbs)]) [] ∧ Fn Try.prog 190 [V.agg [D.bool (decide ((↑(c - 1) : Int) < (0 : Int))), du (dig (↑(c - 1) : Int).natAbs)]] [] (V.d (D.int IntKind.i64 (↑(blen (c - 1)) : Int))) [] ∧ K (St.mk [(2, V.d (D.int IntKind.i64 (↑(blen (c - 1)) : Int)))] [(3, some (Blk.mk [D.bool (decide ((↑c : Int) < (0 : Int))), du (dig (↑c : Int).natAbs)] true))] 13)) (fun K => by kernel_rfl) ?_
    exact ⟨⟨rfl, rfl⟩, h1, hsub, hbl, awp_ret ⟨.inl rfl, retD rfl⟩⟩

/-- the coefficients backwards -/
theorem rreversed_fn (l : List Int) (hn0 : l.length ≤ 100) : Fn Try.prog 107 [.d (.lst l.length (i64s l))] [] (.d (.lst (revP (polL l) (polL l).sz).sz (i64s (cs (revP (polL l) (polL l).sz))))) [] := by
  refine fn0 (nt := 23) (res := [.tmp 2]) Try.func107 rfl (by decide) rfl rfl rfl rfl ?_
  intro Cx hP hnt hl
  have ht := trim11_fn l (by omega)
  obtain ⟨f, hf⟩ : ∃ f, f = polL l := ⟨_, rfl⟩
  have hsz : f.sz ≤ 100 := hf ▸ Nat.le_trans (polL_sz l) hn0
  rw [← hf] at ht ⊢
  obtain ⟨N, hN⟩ : ∃ N, N = f.sz := ⟨_, rfl⟩
  have ht2 := trim11_fn (tb (revP f N).c N) (by simp; omega)
  rw [polL_tb (f := revP f N) (fun k hk => by rw [revP_c, if_neg (by omega)]), tb_len] at ht2
  rw [← hN] at ht ⊢
  have hcl : (cs f).length = N := by rw [cs_len, hN]
  refine awp_sx prog_ok hP hnt [] [] [] [0] (by kernel_rfl) (G := fun K => K (St.mk [(0, V.d (D.lst l.length (i64s l)))] [] 1)) (fun K => by kernel_rfl) ?_
  refine awp_sx prog_ok hP hnt [] [.val (.d (.lst N (i64s (cs f))))] [] [0] (by kernel_rfl) (G := fun K => Fn Try.prog 175 [V.d (D.lst l.length (i64s l))] [] (V.d (D.lst N (i64s (cs f)))) [] ∧ K (St.mk [(0, V.d (D.lst N (i64s (cs f))))] [] 4)) (fun K => by kernel_rfl) ?_
  refine ⟨ht, ?_⟩
  refine awp_sx prog_ok hP hnt [] [] [] [0, 3] (by kernel_rfl) (G := fun K => K (St.mk [(0, V.d (D.lst N (i64s (cs f)))), (3, V.nil)] [] 5)) (fun K => by kernel_rfl) ?_
  refine awp_cut (ι := Unit) (fun _ => ⟨[(3, .own 0 0 N 1)], [(0, some ⟨i64s (tb (revP f N).c N), true⟩)], 1⟩) (fun _ => True) ?_ ?_
  · refine awp_sx prog_ok hP hnt [(9, .int .i64 ((N : Int) - 1))] [] [] [0, 3, 4] (by kernel_rfl) (G := fun K => IntKind.i64.wrap ((↑N : Int) - (1 : Int)) = (↑N : Int) - (1 : Int) ∧ K (St.mk [(0, V.d (D.lst N (i64s (cs f)))), (3, V.nil), (4, V.d (D.int IntKind.i64 ((↑N : Int) - (1 : Int))))] [] 9)) (fun K => by kernel_rfl) ?_
    refine ⟨by rw [w64] <;> omega, ?_⟩
    refine awp_block ?_
    refine awp_loop (ι := Nat) (fun j => ⟨[(0, .d (.lst N (i64s (cs f)))), (3, .own 0 0 j 1), (4, .d (.int .i64 ((N : Int) - 1 - j)))], [(0, some ⟨i64s (tb (revP f N).c j), true⟩)], 1⟩)
      (fun j => j ≤ N) (fun j => N - j) 0 [] (by simp) ?_ ?_
    · (constructor <;> simp [hl, envOk, memOk, conv, St.get, St.blk, i64s, tb])
    intro j hj
    refine awp_seq_k fun K1 hK1 => ?_
    refine awp_sx prog_ok hP hnt [] [] [] [0, 3, 4, 11] (by kernel_rfl) (G := fun K => K (St.mk [(0, V.d (D.lst N (i64s (cs f)))), (3, V.own 0 0 j 1), (4, V.d (D.int IntKind.i64 ((↑N : Int) - (1 : Int) - (↑j : Int)))), (11, V.d (D.bool (decide ((↑N : Int) - (1 : Int) - (↑j : Int) ≥ (0 : Int)))))] [(0, some (Blk.mk (i64s (tb (revP f N).c j)) true))] 3)) (fun K => by kernel_rfl) ?_
    refine awp_cond rfl (fun e => awp_skip (hK1 _ ?_)) (fun e => awp_exit ⟨(), [(0, 0)], trivial, ?_⟩)
    · simp at e
      have ej : (N : Int) - 1 - j = ((N - 1 - j : Nat) : Int) := by omega
      rw [ej]
      have hx := cs_get f (N - 1 - j) (by omega)
      have hr : (revP f N).c j = f.c (N - 1 - j) := by rw [revP_c, if_pos (by omega)]
      have happ : i64s (tb (revP f N).c j) ++ [.int .i64 (f.c (N - 1 - j))] = i64s (tb (revP f N).c (j + 1)) := by rw [← tb_snoc, hr]; simp [i64s]
      refine awp_seq_k fun K2 hK2 => ?_
      refine awp_block ?_
      refine awp_x prog_ok hP hnt [] [] [some [.int .i64 (f.c (N - 1 - j))]] [0, 3, 4] (by kernel_rfl) (G := fun K => ((0 : Int) ≤ (↑(N - 1 - j) : Int) ∧ (↑(N - 1 - j) : Int) < (↑N : Int) ∧ ((↑(N - 1 - j) : Int).toNat + 1) * 1 ≤ (i64s (cs f)).length) ∧ (List.drop ((↑(N - 1 - j) : Int).toNat * 1) (i64s (cs f)))[0]? = some (D.int IntKind.i64 (f.c (N - 1 - j))) ∧ 1 = 1 ∧ ((i64s (tb (revP f N).c j)).length = j * 1 ∧ (j + 1) * 8 ≤ 2 ^ 47) ∧ K (St.mk [(0, V.d (D.lst N (i64s (cs f)))), (3, V.own 9 0 (j + 1) 1), (4, V.d (D.int IntKind.i64 (↑(N - 1 - j) : Int)))] [(0, none), (9, some (Blk.mk (i64s (tb (revP f N).c j) ++ setCells (zeros 1 (TI.mk (Kind.int IntKind.i64) 1 8 [D.int IntKind.i64 (0 : Int)]).zero) 0 [D.int IntKind.i64 (f.c (N - 1 - j))]) true))] 11)) (fun K => by kernel_rfl) ?_
      refine ⟨⟨by omega, by omega, by simp; omega⟩, i64s_at hx, rfl, ⟨by simp, by omega⟩, hK2 _ ?_⟩
      refine awp_x prog_ok hP hnt [(13, .int .i64 ((N : Int) - 1 - (j + 1 : Nat)))] [] [] [0, 3, 4] (by kernel_rfl) (G := fun K => IntKind.i64.wrap ((↑(N - 1 - j) : Int) - (1 : Int)) = (↑N : Int) - (1 : Int) - (↑(j + 1) : Int) ∧ K (St.mk [(0, V.d (D.lst N (i64s (cs f)))), (3, V.own 9 0 (j + 1) 1), (4, V.d (D.int IntKind.i64 ((↑N : Int) - (1 : Int) - (↑(j + 1) : Int))))] [(0, none), (9, some (Blk.mk (i64s (tb (revP f N).c j) ++ setCells (zeros 1 (TI.mk (Kind.int IntKind.i64) 1 8 [D.int IntKind.i64 (0 : Int)]).zero) 0 [D.int IntKind.i64 (f.c (N - 1 - j))]) true))] 14)) (fun K => by kernel_rfl) ?_
      refine ⟨by rw [w64] <;> omega, j + 1, [(0, 9)], ⟨by omega, by omega⟩, ?_⟩
      (constructor <;> simp [hl, envOk, memOk, conv, St.get, St.blk, ← happ, setCells, zeros])
    · simp at e
      have : j = N := by omega
      subst this
      (constructor <;> simp [hl, envOk, memOk, conv, St.get, St.blk])
  intro _ _
  refine awp_sx prog_ok hP hnt [] [.val (.d (.lst (revP f N).sz (i64s (cs (revP f N)))))] [] [2] (by kernel_rfl) (G := fun K => Fn Try.prog 175 [V.d (D.lst N (List.take (N * 1) (List.drop 0 (i64s (tb (revP f N).c N)))))] [] (V.d (D.lst (revP f N).sz (i64s (cs (revP f N))))) [] ∧ K (St.mk [(2, V.d (D.lst (revP f N).sz (i64s (cs (revP f N)))))] [(0, some (Blk.mk (i64s (tb (revP f N).c N)) false))] 4)) (fun K => by kernel_rfl) ?_
  rw [List.drop_zero, List.take_of_length_le (by simp)]
  exact ⟨ht2, awp_ret ⟨.inl rfl, retD rfl⟩⟩

/-- the polynomial without its first coefficients -/
def dropP (f : Poly) (j : Nat) : Poly := ⟨fun k => f.c (k + j), f.sz, fun k hk => above (by omega)⟩
theorem dropP_c (f : Poly) (j k : Nat) : (dropP f j).c k = f.c (k + j) := rfl
theorem sz_dropP (f : Poly) {j : Nat} (hj : j ≤ f.sz) : (dropP f j).sz = f.sz - j := by
  rcases Nat.lt_or_ge j f.sz with h | h
  · have := sz_eq (f := dropP f j) (n := f.sz - 1 - j) (by rw [dropP_c, show f.sz - 1 - j + j = f.sz - 1 by omega]; exact last (by omega)) fun k hk => by rw [dropP_c]; exact above (by omega)
    omega
  · have := sz_le (f := dropP f j) (n := 0) fun k _ => by rw [dropP_c]; exact above (by omega)
    omega
theorem cp_dropP (f : Poly) {j : Nat} (hj : j < f.sz) : cp (dropP f (j + 1)) = (cp (dropP f j)).drop 1 := by
  have h1 := sz_dropP f (j := j) (by omega)
  have h2 := sz_dropP f (j := j + 1) (by omega)
  apply List.ext_getElem?
  intro k
  rw [List.getElem?_drop]
  by_cases hk : k < f.sz - (j + 1)
  · rw [cp_get _ (by omega), cp_get _ (by omega), dropP_c, dropP_c, show 1 + k + j = k + (j + 1) by omega]
  · rw [List.getElem?_eq_none (by rw [cp_len]; omega), List.getElem?_eq_none (by rw [cp_len]; omega)]
theorem revP_dropP (f : Poly) {j : Nat} (hj : j ≤ f.sz) (hz : ∀ k, k < j → f.c k = 0) : revP (dropP f j) (dropP f j).sz = revP f f.sz := ext_c fun k => by
  rw [sz_dropP f hj, revP_c, revP_c]
  by_cases h1 : k < f.sz - j
  · rw [if_pos h1, if_pos (by omega), dropP_c]; congr 1; omega
  · rw [if_neg h1]
    split
    · exact (hz _ (by omega)).symm
    · rfl
theorem cauchy_small {f : Poly} (h : f.sz < 2) : cauchy f = 0 := if_pos (by omega)
theorem cauchy_pos {f : Poly} (h : 2 ≤ f.sz) : 0 < cauchy f := by unfold cauchy; rw [if_neg (by omega)]; omega
theorem sz_rev0 {f : Poly} (h : f.c 0 ≠ 0) : (revP f f.sz).sz = f.sz := by
  have hp := lt_sz h
  have := sz_eq (f := revP f f.sz) (n := f.sz - 1) (by rw [revP_c, if_pos (by omega), show f.sz - 1 - (f.sz - 1) = 0 by omega]; exact h) fun k hk => by rw [revP_c, if_neg (by omega)]
  omega
/-- the lower bound, as a fraction -/
def lowF (c : Nat) : List D := rt (if c = 0 then 0 else 1) (if c = 0 then 1 else c)

theorem lowerP {i : Nat} {ps : List RI} (hi : i ≤ 12) (hp : W i ps) : Fn Try.prog 109 [.d (rp ps)] [] (.agg (lowF (cauchy (revP (pol ps) (pol ps).sz)))) [] := by
  refine fn0 (nt := 33) (res := [.cell 2 78]) Try.func109 rfl (by decide) rfl rfl rfl rfl ?_
  intro Cx hP hnt hl
  have hn := normP hi hp
  obtain ⟨f, hf⟩ : ∃ f, f = pol ps := ⟨_, rfl⟩
  have hlv : Lv i f := hf ▸ hp.lv
  rw [← hf] at hn ⊢
  have h2 := lim2 hi
  have hlb := lvbits hi
  have hfs := hlv.len
  have hldrop : ∀ j, j ≤ f.sz → Lv i (dropP f j) := fun j hj => ⟨by rw [sz_dropP f hj]; omega, fun k => hlv.ok _⟩
  refine awp_sx prog_ok hP hnt [] [] [] [0, 2] (by kernel_rfl) (G := fun K => K (St.mk [(0, V.d (rp ps)), (2, V.ptr 0 0)] [(0, some (Blk.mk [D.bool false, D.lst 0 [], D.lst 0 []] true))] 1)) (fun K => by kernel_rfl) ?_
  refine awp_sx prog_ok hP hnt [] [.val (.d (rp (cp f)))] [] [2, 3] (by kernel_rfl) (G := fun K => Fn Try.prog 63 [V.d (rp ps)] [] (V.d (rp (cp f))) [] ∧ K (St.mk [(2, V.ptr 0 0), (3, V.d (rp (cp f)))] [(0, some (Blk.mk [D.bool false, D.lst 0 [], D.lst 0 []] true))] 4)) (fun K => by kernel_rfl) ?_
  refine ⟨hn, ?_⟩
  have hfin : ∃ j, j ≤ f.sz ∧ (∀ k, k < j → f.c k = 0) ∧ (j = f.sz ∨ f.c j ≠ 0) := by
    by_cases h : ∀ k, f.c k = 0
    · exact ⟨f.sz, Nat.le_refl _, fun k _ => h k, .inl rfl⟩
    · obtain ⟨j, h3, h4⟩ := first_not h
      exact ⟨j, Nat.le_of_lt (lt_sz h3), h4, .inr h3⟩
  obtain ⟨J, hJ1, hJ2, hJ3⟩ := hfin
  refine awp_cut (ι := Unit) (fun _ => ⟨[(2, .ptr 0 0), (3, .d (rp (cp (dropP f J))))], [(0, some ⟨[.bool false, .lst 0 [], .lst 0 []], true⟩)], 1⟩) (fun _ => True) ?_ ?_
  · refine awp_block ?_
    refine awp_loop (ι := Nat) (fun j => ⟨[(2, .ptr 0 0), (3, .d (rp (cp (dropP f j))))], [(0, some ⟨[.bool false, .lst 0 [], .lst 0 []], true⟩)], 1⟩) (fun j => j ≤ J) (fun j => J - j) 0 [(0, 0)] (by omega) ?_ ?_
    · have : dropP f 0 = f := ext_c fun k => rfl
      rw [this]
      (constructor <;> simp [hl, envOk, memOk, conv, St.get, St.blk])
    intro j hj
    have hs := sz_dropP f (j := j) (by omega)
    refine awp_seq_k fun K1 hK1 => ?_
    rcases Nat.lt_or_ge j f.sz with h3 | h3
    · have hg : (cp (dropP f j))[0]? = some (riz (f.c j)) := by rw [cp_get _ (by omega), dropP_c, Nat.zero_add]
      have hb := hlv.bits j
      have hsg := sign_fn (riz (f.c j)).1 (riz (f.c j)).2 (by have := (riz_bits hb (by omega)).2; omega) (dig_lt _)
      rw [show ival (riz (f.c j)).1 (riz (f.c j)).2 = f.c j from rval_riz _] at hsg
      refine awp_sx prog_ok hP hnt [(11, .bool true), (16, .bool (decide (f.c j = 0))), (17, .bool (decide (f.c j = 0)))] [.val (.d (.int .i64 (f.c j).sign))] [some [.bool (riz (f.c j)).1, du (riz (f.c j)).2]] [2, 3, 17] (by kernel_rfl) (G := fun K => decide ((↑(cp (dropP f j)).length : Int) > (0 : Int)) = true ∧ ((0 : Int) ≤ (0 : Int) ∧ (0 : Int) < (↑(cp (dropP f j)).length : Int) ∧ 2 ≤ (rc (cp (dropP f j))).length) ∧ ((List.drop 0 (rc (cp (dropP f j))))[0]? = some (D.bool (riz (f.c j)).fst) ∧ (List.drop 0 (rc (cp (dropP f j))))[1]? = some (du (riz (f.c j)).snd)) ∧ Fn Try.prog 102 [V.agg [D.bool (riz (f.c j)).fst, du (riz (f.c j)).snd]] [] (V.d (D.int IntKind.i64 (f.c j).sign)) [] ∧ ((f.c j).sign == (0 : Int)) = decide (f.c j = (0 : Int)) ∧ decide (f.c j = (0 : Int)) = decide (f.c j = (0 : Int)) ∧ K (St.mk [(2, V.ptr 0 0), (3, V.d (rp (cp (dropP f j)))), (17, V.d (D.bool (decide (f.c j = (0 : Int)))))] [(0, some (Blk.mk [D.bool false, D.lst 0 [], D.lst 0 []] true))] 11)) (fun K => by kernel_rfl) ?_
      refine ⟨by simp; omega, ⟨by omega, by rw [cp_len]; omega, by rw [rc_len, cp_len]; omega⟩, ⟨rc_get0 (i := 0) hg, rc_get1 (i := 0) hg⟩, hsg, ?_, rfl, awp_cond rfl (fun e => awp_skip (hK1 _ ?_)) (fun e => awp_exit ⟨(), [(0, 0)], trivial, ?_⟩)⟩
      · rw [Bool.eq_iff_iff]; simp
      · have e1 := of_decide_eq_true e
        have hjJ : j < J := by
          rcases Nat.lt_or_ge j J with h | h
          · exact h
          · have : j = J := by omega
            subst this
            rcases hJ3 with h4 | h4
            · omega
            · exact absurd e1 h4
        refine awp_block ?_
        refine awp_x prog_ok hP hnt [] [] [] [2, 3] (by kernel_rfl) (G := fun K => ((rc (cp (dropP f j))).length = (cp (dropP f j)).length * 2 ∧ (0 : Int) ≤ (1 : Int) ∧ (1 : Int) ≤ (↑(cp (dropP f j)).length : Int)) ∧ K (St.mk [(2, V.ptr 0 0), (3, V.d (D.lst ((cp (dropP f j)).length - Int.toNat (1 : Int)) (List.drop 2 (rc (cp (dropP f j))))))] [(0, some (Blk.mk [D.bool false, D.lst 0 [], D.lst 0 []] true))] 14)) (fun K => by kernel_rfl) ?_
        refine ⟨⟨by simp, by omega, by rw [cp_len]; omega⟩, j + 1, [(0, 0)], ⟨by omega, by omega⟩, ?_⟩
        have hd : rp (cp (dropP f (j + 1))) = D.lst ((cp (dropP f j)).length - 1) (List.drop 2 (rc (cp (dropP f j)))) := by
          rw [cp_dropP f h3]
          unfold rp
          rw [List.length_drop]
          congr 1
          exact (rc_drop _ 1).symm
        (constructor <;> simp [hl, envOk, memOk, conv, St.get, St.blk, hd])
      · have e1 := of_decide_eq_false e
        have : j = J := by
          rcases Nat.lt_or_ge j J with h | h
          · exact absurd (hJ2 j h) e1
          · omega
        subst this
        (constructor <;> simp [hl, envOk, memOk, conv, St.get, St.blk])
    · refine awp_sx prog_ok hP hnt [(11, .bool false), (17, .bool false)] [] [] [2, 3, 17] (by kernel_rfl) (G := fun K => decide ((↑(cp (dropP f j)).length : Int) > (0 : Int)) = false ∧ false = false ∧ K (St.mk [(2, V.ptr 0 0), (3, V.d (rp (cp (dropP f j)))), (17, V.d (D.bool false))] [(0, some (Blk.mk [D.bool false, D.lst 0 [], D.lst 0 []] true))] 11)) (fun K => by kernel_rfl) ?_
      refine ⟨by simp; omega, rfl, awp_cond (b := false) rfl nofun fun _ => awp_exit ⟨(), [(0, 0)], trivial, ?_⟩⟩
      have : j = J := by omega
      subst this
      (constructor <;> simp [hl, envOk, memOk, conv, St.get, St.blk])
  intro _ _
  obtain ⟨g, hg⟩ : ∃ g, g = dropP f J := ⟨_, rfl⟩
  have hrv := revP_dropP f hJ1 hJ2
  have hgs := sz_dropP f hJ1
  have hgl := hldrop J hJ1
  rw [← hg] at hrv hgs hgl ⊢
  have hg0 : g.sz = 0 ∨ g.c 0 ≠ 0 := by
    rcases hJ3 with h | h
    · left; omega
    · right; rw [hg, dropP_c, Nat.zero_add]; exact h
  obtain ⟨hr1, hr2⟩ := reverseP hi hgl.w
  rw [pol_cp] at hr1 hr2
  rw [← hrv]
  obtain ⟨R, hR⟩ : ∃ R, R = revP g g.sz := ⟨_, rfl⟩
  have hRs : g.sz = 0 ∨ R.sz = g.sz := by
    rcases hg0 with h | h
    · exact .inl h
    · right; rw [hR]; exact sz_rev0 h
  rw [← hR] at hr1 hr2 ⊢
  refine awp_seq_k fun K hK => ?_
  refine awp_sx prog_ok hP hnt [] [] [] [2, 3, 22] (by kernel_rfl) (G := fun K => K (St.mk [(2, V.ptr 0 0), (3, V.d (rp (cp g))), (22, V.d (D.bool (decide ((↑(cp g).length : Int) < (2 : Int)))))] [(0, some (Blk.mk [D.bool false, D.lst 0 [], D.lst 0 []] true))] 4)) (fun K => by kernel_rfl) ?_
  refine awp_cond rfl (fun e => ?_) (fun e => awp_skip (hK _ ?_))
  · simp at e
    have hc0 : cauchy R = 0 := by
      rcases hRs with h | h
      · refine cauchy_small (Nat.lt_of_le_of_lt (sz_le (n := 1) fun k hk => ?_) (by omega))
        rw [hR, h, revP_c, if_neg (by omega)]
      · exact cauchy_small (by omega)
    have hof := rof_fn 0 (by decide) (by decide)
    refine awp_sx prog_ok hP hnt [] [.val (.agg (rt 0 1))] [] [2] (by kernel_rfl) (G := fun K => Fn Try.prog 191 [V.d (D.int IntKind.i64 (0 : Int))] [] (V.agg [D.bool (decide ((0 : Int) < (0 : Int))), du (dig (Int.natAbs (0 : Int))), du (dig 1)]) [] ∧ 3 ≤ [D.bool false, D.lst 0 [], D.lst 0 []].length ∧ K (St.mk [(2, V.ptr 0 0)] [(0, some (Blk.mk [D.bool (decide ((0 : Int) < (0 : Int))), du (dig (Int.natAbs (0 : Int))), du (dig 1)] true))] 6)) (fun K => by kernel_rfl) ?_
    rw [hc0]
    exact ⟨hof, by simp [rt], awp_ret ⟨.inl rfl, retC (l := true) rfl rfl rfl rfl⟩⟩
  · simp at e
    have hRs2 : 2 ≤ R.sz := by rcases hRs with h | h <;> omega
    have hcp := cauchy_pos hRs2
    have hcau := cauchyP hi hr2.w
    rw [pol_cp] at hcau
    have hcl := cauchy_lt hr2.bits
    obtain ⟨c, hc⟩ : ∃ c, c = cauchy R := ⟨_, rfl⟩
    rw [← hc] at hcp hcau hcl ⊢
    obtain ⟨KB, hKB⟩ : ∃ KB, KB = 1280 * 4 ^ i := ⟨_, rfl⟩
    rw [← hKB] at hcl hlb
    have h1 := iOf_fn 1 (by decide) (by decide)
    have hdl : (dig c).length ≤ 2 ^ 38 := by
      have hlt : c < 2 ^ (KB + 1) := by rw [Nat.pow_succ]; have := Nat.pow_pos (n := KB) (show 0 < 2 by omega); omega
      have := (riz_bits (z := (c : Int)) (K := KB + 1) (by simpa using hlt) (by omega)).2
      have h9 : (riz (c : Int)).2 = dig c := by show dig (c : Int).natAbs = _; rw [Int.natAbs_natCast]
      rw [h9] at this
      omega
    have hmk := rmake_fn (decide ((1 : Int) < 0)) (dig (1 : Int).natAbs) (dig c) (by have := dig_len (n := 1) (k := 1) (by decide); show (dig 1).length ≤ _; omega) hdl (dig_lt _) (dig_lt _) (by rw [val_dig]; omega)
    rw [ival_iz, val_dig, ← iz_ic, ← iz_nat'] at hmk
    have e1 : rnum 1 c = 1 := by unfold rnum; rw [if_neg (by omega), show (1 : Int).natAbs = 1 from rfl, Nat.gcd_one_left]; rfl
    have e2 : rden 1 c = c := by unfold rden; rw [if_neg (by omega), show (1 : Int).natAbs = 1 from rfl, Nat.gcd_one_left, Nat.div_one]
    rw [e1, e2] at hmk
    have elow : lowF c = rt 1 c := by unfold lowF; rw [if_neg (by omega), if_neg (by omega)]
    rw [elow]
    refine awp_sx prog_ok hP hnt [] [.val (.agg (iz 1)), .val (.d (rp (cp R))), .val (.agg (iz (c : Nat))), .val (.tup [.agg (rt 1 c), .d (.int .i64 0)])] [] [2, 4] (by kernel_rfl) (G := fun K => Fn Try.prog 74 [V.d (D.int IntKind.i64 (1 : Int))] [] (V.agg [D.bool (decide ((1 : Int) < (0 : Int))), du (dig (Int.natAbs (1 : Int)))]) [] ∧ Fn Try.prog 57 [V.d (rp (cp g))] [] (V.d (rp (cp R))) [] ∧ Fn Try.prog 104 [V.d (rp (cp R))] [] (V.agg [D.bool (decide ((↑c : Int) < (0 : Int))), du (dig (↑c : Int).natAbs)]) [] ∧ Fn Try.prog 110 [V.agg [D.bool (decide ((1 : Int) < (0 : Int))), du (dig (Int.natAbs (1 : Int)))], V.agg [D.bool (decide ((↑c : Int) < (0 : Int))), du (dig (↑c : Int).natAbs)]] [] (V.tup [V.agg [D.bool (decide ((1 : Int) < (0 : Int))), du (dig (Int.natAbs (1 : Int))), du (dig c)], V.d (D.int IntKind.i64 (0 : Int))]) [] ∧ 0 + (rt (1 : Int) c).length ≤ (TI.mk (Kind.struct [(0, 2), (2, 1)]) 3 56 [D.bool false, D.lst 0 [], D.lst 0 []]).zero.length ∧ K (St.mk [(2, V.ptr 0 0), (4, V.ptr 12 0)] [(0, some (Blk.mk [D.bool false, D.lst 0 [], D.lst 0 []] true)), (12, some (Blk.mk [D.bool (decide ((1 : Int) < (0 : Int))), du (dig (Int.natAbs (1 : Int))), du (dig c)] true))] 15)) (fun K => by kernel_rfl) ?_
    refine ⟨h1, hr1, hcau, hmk, by simp [rt], ?_⟩
    refine awp_sx prog_ok hP hnt [] [] [some (rt 1 c)] [2] (by kernel_rfl) (G := fun K => ([D.bool (decide ((1 : Int) < (0 : Int))), du (dig (Int.natAbs (1 : Int))), du (dig c)][0]? = some (D.bool (decide ((1 : Int) < (0 : Int)))) ∧ [D.bool (decide ((1 : Int) < (0 : Int))), du (dig (Int.natAbs (1 : Int))), du (dig c)][1]? = some (du (dig (Int.natAbs (1 : Int)))) ∧ [D.bool (decide ((1 : Int) < (0 : Int))), du (dig (Int.natAbs (1 : Int))), du (dig c)][2]? = some (du (dig c))) ∧ 0 + (rt (1 : Int) c).length ≤ [D.bool false, D.lst 0 [], D.lst 0 []].length ∧ K (St.mk [(2, V.ptr 0 0)] [(0, some (Blk.mk [D.bool (decide ((1 : Int) < (0 : Int))), du (dig (Int.natAbs (1 : Int))), du (dig c)] true)), (12, some (Blk.mk [D.bool (decide ((1 : Int) < (0 : Int))), du (dig (Int.natAbs (1 : Int))), du (dig c)] true))] 17)) (fun K => by kernel_rfl) ?_
    exact ⟨⟨rfl, rfl, rfl⟩, by simp [rt], awp_ret ⟨.inl rfl, retC (l := true) rfl rfl rfl rfl⟩⟩
end Go.Abs

set_option linter.unusedVariables false
set_option linter.unusedSimpArgs false
namespace Go.Abs
open Go Go.Proofs Poly
set_option maxRecDepth 100000

theorem cauchyLaw_fn (a : List Int) (ha : ∀ n ∈ a, -32768 ≤ n ∧ n ≤ 32767) : Fn Try.prog 14 [.d (.lst a.length (i16s a))] [] (.d (.bool true)) [] := by
  have hw := wide_fn a 10 40000 ha (by omega) (by omega)
  have hll := wideL_len 10 40000 a
  have hla := wideL_abs (n := 10) (m := 40000) (by omega) (l := a)
  obtain ⟨l, hl0⟩ : ∃ l, l = wideL 10 40000 a := ⟨_, rfl⟩
  rw [← hl0] at hw hll hla
  have hlb : ∀ z ∈ l, z.natAbs ≤ 40000 := fun z hz => by have := hla z hz; omega
  have h64 : In64 l := fun z hz => by have := hlb z hz; omega
  have hp := poly14_fn l (by omega) h64
  obtain ⟨P, hP⟩ : ∃ P, P = polL l := ⟨_, rfl⟩
  have hbd : Bd 10 17 P := by
    refine ⟨hP ▸ Nat.le_trans (polL_sz l) hll, fun k => ?_⟩
    have : Bz 17 l := fun z hz => by have := hlb z hz; omega
    rw [hP]
    exact this.getD k
  have hlv : Lv 0 P := hbd.lv (by decide) (by decide)
  have hrc := rcauchy_fn l (by omega) (fun z hz => by have := hlb z hz; omega)
  rw [← hP] at hp hrc
  have hcl := cauchy_lt hbd.ok
  have hca := cauchyP (i := 0) (by omega) hlv.w
  have hlg := logP (i := 0) (by omega) hlv.w
  have hlo := lowerP (i := 0) (by omega) hlv.w
  rw [pol_cp] at hca hlg hlo
  obtain ⟨c, hc⟩ : ∃ c, c = cauchy P := ⟨_, rfl⟩
  rw [← hc] at hrc hcl hca hlg
  have hc17 : c ≤ 2 ^ 17 := hcl
  have hrl := rlog_fn c (by omega)
  have his := is14_fn false (dig c) (c : Int) (Nat.le_trans (dig_len (k := 1) (by omega)) (by omega)) (dig_lt _) (by omega) (by omega)
  rw [← iz_nat', show ival false (dig c) = (c : Int) from by unfold ival sgn; rw [val_dig]; rfl, decide_eq_true rfl] at his
  have hrv := rreversed_fn l (by omega)
  rw [← hP] at hrv
  obtain ⟨R, hR⟩ : ∃ R, R = revP P P.sz := ⟨_, rfl⟩
  have hRc : ∀ k, (R.c k).natAbs ≤ 40000 := fun k => by
    rw [hR, revP_c]
    split
    · rw [hP, polL_c, List.getD_eq_getElem?_getD]
      cases e : l[P.sz - 1 - k]? with
      | none => rw [hP] at e; rw [e]; simp
      | some z => rw [hP] at e; rw [e]; exact hlb z (List.mem_of_getElem? e)
    · simp
  have hRs : R.sz ≤ 10 := Nat.le_trans (sz_le fun k hk => by rw [hR, revP_c, if_neg (by omega)]) hbd.len
  rw [← hR] at hrv hlo
  have hrc2 := rcauchy_fn (cs R) (by simp; omega) (fun z hz => by
    obtain ⟨i, hi⟩ := List.mem_iff_getElem?.1 hz
    have hv := hRc i
    rw [← cs_getD, List.getD_eq_getElem?_getD, hi] at hv
    simp at hv
    omega)
  rw [polL_cs, cs_len] at hrc2
  have hcl2 := cauchy_lt (K := 17) (f := R) fun k => by have := hRc k; omega
  obtain ⟨d, hd⟩ : ∃ d, d = cauchy R := ⟨_, rfl⟩
  rw [← hd] at hrc2 hcl2 hlo
  have hd17 : d ≤ 2 ^ 17 := hcl2
  refine fn0 (nt := 51) (res := [.tmp 2]) Try.func14 rfl (by decide) rfl rfl rfl rfl ?_
  intro Cx hP hnt hl
  refine awp_sx prog_ok hP hnt [] [] [] [0] (by kernel_rfl) (G := fun K => K (St.mk [(0, V.d (D.lst a.length (i16s a)))] [] 1)) (fun K => by kernel_rfl) ?_
  refine awp_seq_k fun K hK => ?_
  refine awp_sx prog_ok hP hnt [] [.val (.d (.bool true))] [] [0, 9] (by kernel_rfl) (G := fun K => Fn Try.prog 75 [] [] (V.d (D.bool true)) [] ∧ K (St.mk [(0, V.d (D.lst a.length (i16s a))), (9, V.d (D.bool !true))] [] 3)) (fun K => by kernel_rfl) ?_
  refine ⟨awake14_fn, awp_cond (b := false) rfl nofun fun _ => awp_skip (hK _ ?_)⟩
  refine awp_sx prog_ok hP hnt [] [.val (.d (.lst l.length (i64s l)))] [] [3] (by kernel_rfl) (G := fun K => Fn Try.prog 82 [V.d (D.lst a.length (i16s a)), V.d (D.int IntKind.i64 (10 : Int)), V.d (D.int IntKind.i64 (40000 : Int))] [] (V.d (D.lst l.length (i64s l))) [] ∧ K (St.mk [(3, V.d (D.lst l.length (i64s l)))] [] 6)) (fun K => by kernel_rfl) ?_
  refine ⟨hw, ?_⟩
  refine awp_sx prog_ok hP hnt [] [.val (.d (.int .i64 (c : Nat)))] [] [3, 4] (by kernel_rfl) (G := fun K => Fn Try.prog 103 [V.d (D.lst l.length (i64s l))] [] (V.d (D.int IntKind.i64 (↑c : Int))) [] ∧ K (St.mk [(3, V.d (D.lst l.length (i64s l))), (4, V.d (D.int IntKind.i64 (↑c : Int)))] [] 9)) (fun K => by kernel_rfl) ?_
  refine ⟨hrc, ?_⟩
  refine awp_seq_k fun K2 hK2 => ?_
  refine awp_sx prog_ok hP hnt [(20, .bool false), (26, .bool false), (27, .bool false)] [.val (.d (rp (cp P))), .val (.agg (iz (c : Nat))), .val (.d (.bool true)), .val (.d (rp (cp P))), .val (.d (.int .i64 (blen (c - 1) : Nat))), .val (.d (.int .i64 (blen (c - 1) : Nat)))] [] [3, 27] (by kernel_rfl) (G := fun K => Fn Try.prog 79 [V.d (D.lst l.length (i64s l))] [] (V.d (rp (cp P))) [] ∧ Fn Try.prog 104 [V.d (rp (cp P))] [] (V.agg [D.bool (decide ((↑c : Int) < (0 : Int))), du (dig (↑c : Int).natAbs)]) [] ∧ Fn Try.prog 84 [V.agg [D.bool (decide ((↑c : Int) < (0 : Int))), du (dig (↑c : Int).natAbs)], V.d (D.int IntKind.i64 (↑c : Int))] [] (V.d (D.bool true)) [] ∧ (!true) = false ∧ Fn Try.prog 79 [V.d (D.lst l.length (i64s l))] [] (V.d (rp (cp P))) [] ∧ Fn Try.prog 105 [V.d (rp (cp P))] [] (V.d (D.int IntKind.i64 (↑(blen (c - 1)) : Int))) [] ∧ Fn Try.prog 106 [V.d (D.int IntKind.i64 (↑c : Int))] [] (V.d (D.int IntKind.i64 (↑(blen (c - 1)) : Int))) [] ∧ ((↑(blen (c - 1)) : Int) != (↑(blen (c - 1)) : Int)) = false ∧ false = false ∧ K (St.mk [(3, V.d (D.lst l.length (i64s l))), (27, V.d (D.bool false))] [] 23)) (fun K => by kernel_rfl) ?_
  refine ⟨hp, hca, his, rfl, hp, hlg, hrl, by simp, rfl, awp_cond (b := false) rfl nofun fun _ => awp_skip (hK2 _ ?_)⟩
  refine awp_sx prog_ok hP hnt [] [.val (.d (.lst R.sz (i64s (cs R)))), .val (.d (.int .i64 (d : Nat)))] [] [3, 5] (by kernel_rfl) (G := fun K => Fn Try.prog 107 [V.d (D.lst l.length (i64s l))] [] (V.d (D.lst R.sz (i64s (cs R)))) [] ∧ Fn Try.prog 103 [V.d (D.lst R.sz (i64s (cs R)))] [] (V.d (D.int IntKind.i64 (↑d : Int))) [] ∧ K (St.mk [(3, V.d (D.lst l.length (i64s l))), (5, V.d (D.int IntKind.i64 (↑d : Int)))] [] 27)) (fun K => by kernel_rfl) ?_
  refine ⟨hrv, hrc2, ?_⟩
  refine awp_seq_k fun K3 hK3 => ?_
  refine awp_sx prog_ok hP hnt [] [] [] [3, 5, 32] (by kernel_rfl) (G := fun K => K (St.mk [(3, V.d (D.lst l.length (i64s l))), (5, V.d (D.int IntKind.i64 (↑d : Int))), (32, V.d (D.bool ((↑d : Int) == (0 : Int))))] [] 29)) (fun K => by kernel_rfl) ?_
  refine awp_cond rfl (fun e => ?_) (fun e => awp_skip (hK3 _ ?_))
  · simp at e
    subst e
    have hsg := rsign_fn 0 1 (by show (dig 0).length ≤ _; rw [dig_zero]; exact Nat.zero_le _) (Nat.le_trans (dig_len (k := 1) (by decide)) (by omega)) (by decide)
    refine awp_sx prog_ok hP hnt [] [.val (.d (rp (cp P))), .val (.agg (rt 0 1)), .val (.d (.int .i64 (0 : Int).sign))] [] [2] (by kernel_rfl) (G := fun K => Fn Try.prog 79 [V.d (D.lst l.length (i64s l))] [] (V.d (rp (cp P))) [] ∧ Fn Try.prog 109 [V.d (rp (cp P))] [] (V.agg [D.bool (decide ((0 : Int) < (0 : Int))), du (dig (Int.natAbs (0 : Int))), du (dig 1)]) [] ∧ Fn Try.prog 108 [V.agg [D.bool (decide ((0 : Int) < (0 : Int))), du (dig (Int.natAbs (0 : Int))), du (dig 1)]] [] (V.d (D.int IntKind.i64 (Int.sign (0 : Int)))) [] ∧ K (St.mk [(2, V.d (D.bool (Int.sign (0 : Int) == (0 : Int))))] [] 35)) (fun K => by kernel_rfl) ?_
    exact ⟨hp, hlo, hsg, awp_ret ⟨.inl rfl, retD rfl⟩⟩
  · simp at e
    have h1 := iOf_fn 1 (by decide) (by decide)
    have h2 := iOf_fn (d : Int) (by omega) (by omega)
    have hdl : (dig d).length ≤ 1 := dig_len (by omega)
    have hmk := rmake_fn (decide ((1 : Int) < 0)) (dig (1 : Int).natAbs) (dig d) (by have := dig_len (n := 1) (k := 1) (by decide); show (dig 1).length ≤ _; omega) (by omega) (dig_lt _) (dig_lt _) (by rw [val_dig]; omega)
    rw [ival_iz, val_dig, ← iz_ic, ← iz_nat'] at hmk
    have e1 : rnum 1 d = 1 := by unfold rnum; rw [if_neg (by omega), show (1 : Int).natAbs = 1 from rfl, Nat.gcd_one_left]; rfl
    have e2 : rden 1 d = d := by unfold rden; rw [if_neg (by omega), show (1 : Int).natAbs = 1 from rfl, Nat.gcd_one_left, Nat.div_one]
    rw [e1, e2] at hmk
    have elow : lowF d = rt 1 d := by unfold lowF; rw [if_neg (by omega), if_neg (by omega)]
    rw [elow] at hlo
    have hcm := rcmp_fn 1 1 d d (by show (dig 1).length ≤ _; have := dig_len (n := 1) (k := 1) (by decide); omega) (by show (dig 1).length ≤ _; have := dig_len (n := 1) (k := 1) (by decide); omega) (by omega) (by omega) (by omega) (by omega)
    rw [cmpZ_zero.2 rfl] at hcm
    refine awp_sx prog_ok hP hnt [] [.val (.agg (iz 1)), .val (.agg (iz (d : Nat))), .val (.tup [.agg (rt 1 d), .d (.int .i64 0)])] [] [3, 6] (by kernel_rfl) (G := fun K => Fn Try.prog 74 [V.d (D.int IntKind.i64 (1 : Int))] [] (V.agg [D.bool (decide ((1 : Int) < (0 : Int))), du (dig (Int.natAbs (1 : Int)))]) [] ∧ Fn Try.prog 74 [V.d (D.int IntKind.i64 (↑d : Int))] [] (V.agg [D.bool (decide ((↑d : Int) < (0 : Int))), du (dig (↑d : Int).natAbs)]) [] ∧ Fn Try.prog 110 [V.agg [D.bool (decide ((1 : Int) < (0 : Int))), du (dig (Int.natAbs (1 : Int)))], V.agg [D.bool (decide ((↑d : Int) < (0 : Int))), du (dig (↑d : Int).natAbs)]] [] (V.tup [V.agg [D.bool (decide ((1 : Int) < (0 : Int))), du (dig (Int.natAbs (1 : Int))), du (dig d)], V.d (D.int IntKind.i64 (0 : Int))]) [] ∧ 0 + (rt (1 : Int) d).length ≤ (TI.mk (Kind.struct [(0, 2), (2, 1)]) 3 56 [D.bool false, D.lst 0 [], D.lst 0 []]).zero.length ∧ K (St.mk [(3, V.d (D.lst l.length (i64s l))), (6, V.ptr 36 0)] [(36, some (Blk.mk [D.bool (decide ((1 : Int) < (0 : Int))), du (dig (Int.natAbs (1 : Int))), du (dig d)] true))] 39)) (fun K => by kernel_rfl) ?_
    refine ⟨h1, h2, hmk, by simp [rt], ?_⟩
    refine awp_sx prog_ok hP hnt [] [.val (.d (rp (cp P))), .val (.agg (rt 1 d)), .val (.d (.int .i64 0))] [some (rt 1 d)] [2] (by kernel_rfl) (G := fun K => Fn Try.prog 79 [V.d (D.lst l.length (i64s l))] [] (V.d (rp (cp P))) [] ∧ Fn Try.prog 109 [V.d (rp (cp P))] [] (V.agg [D.bool (decide ((1 : Int) < (0 : Int))), du (dig (Int.natAbs (1 : Int))), du (dig d)]) [] ∧ ([D.bool (decide ((1 : Int) < (0 : Int))), du (dig (Int.natAbs (1 : Int))), du (dig d)][0]? = some (D.bool (decide ((1 : Int) < (0 : Int)))) ∧ [D.bool (decide ((1 : Int) < (0 : Int))), du (dig (Int.natAbs (1 : Int))), du (dig d)][1]? = some (du (dig (Int.natAbs (1 : Int)))) ∧ [D.bool (decide ((1 : Int) < (0 : Int))), du (dig (Int.natAbs (1 : Int))), du (dig d)][2]? = some (du (dig d))) ∧ Fn Try.prog 100 [V.agg [D.bool (decide ((1 : Int) < (0 : Int))), du (dig (Int.natAbs (1 : Int))), du (dig d)], V.agg [D.bool (decide ((1 : Int) < (0 : Int))), du (dig (Int.natAbs (1 : Int))), du (dig d)]] [] (V.d (D.int IntKind.i64 (0 : Int))) [] ∧ K (St.mk [(2, V.d (D.bool ((0 : Int) == (0 : Int))))] [(36, some (Blk.mk [D.bool (decide ((1 : Int) < (0 : Int))), du (dig (Int.natAbs (1 : Int))), du (dig d)] true))] 46)) (fun K => by kernel_rfl) ?_
    exact ⟨hp, hlo, ⟨rfl, rfl, rfl⟩, hcm, awp_ret ⟨.inl rfl, retD rfl⟩⟩
end Go.Abs
