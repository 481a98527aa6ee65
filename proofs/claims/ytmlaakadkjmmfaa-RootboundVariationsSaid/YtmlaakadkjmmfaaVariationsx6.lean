import Derived.WalkKit
import Derived.Orders
import Derived.Below
import Derived.Laws.AppendOwn
import Derived.Calls
import Derived.OpenShut
import Derived.ChangeArms
import Derived.ChangeShapes
import Derived.WideShapes
import Derived.KernelRfl
import Derived.JoinedOf
import Derived.Scope
import Derived.ProofKit
import Derived.ShutString
import Derived.ChangeOld
import Derived.SizedLaws
import Derived.Test.YtmlaakadkjmmfaaProg
import Derived.Test.YtmlaakadkjmmfaaVariationsx0
import Derived.Test.YtmlaakadkjmmfaaVariationsx1
import Derived.Test.YtmlaakadkjmmfaaVariationsx2
import Derived.Test.YtmlaakadkjmmfaaVariationsx3
import Derived.Test.YtmlaakadkjmmfaaVariationsx4
import Derived.Test.YtmlaakadkjmmfaaVariationsx5
/- Texts that the proof of RootboundVariations leans on: what is told of the functions it reaches. -/
set_option linter.unusedVariables false
set_option linter.unusedSimpArgs false
namespace Go.Abs
open Go Go.Proofs
set_option maxRecDepth 100000

theorem dzero_fn (s : Bool) (l : List Nat) (h : l.length ≤ 2 ^ 40) (hd : Dg l) : Fn Try.prog 234 [.agg (ic s l)] [] (.d (.bool (decide (val l = 0)))) [] := by
  refine fn0 (nt := 6) (res := [.tmp 2]) Try.func234 rfl (by decide) rfl rfl rfl rfl ?_
  intro Cx hP hnt hl
  have h1 := isZero_fn l (by omega) hd
  refine awp_sx prog_ok hP hnt [] [] [] [1] (by kernel_rfl) (G := fun K => K (St.mk [(1, V.ptr 0 0)] [(0, some (Blk.mk [D.bool s, du l] true))] 2)) (fun K => by kernel_rfl) ?_
  refine awp_sx prog_ok hP hnt [] [.val (.d (.bool (decide (val l = 0))))] [some [du l]] [2] (by kernel_rfl) (G := fun K => [D.bool s, du l][1]? = some (du l) ∧ Fn Try.prog 187 [V.d (du l)] [] (V.d (D.bool (decide (val l = 0)))) [] ∧ K (St.mk [(2, V.d (D.bool (decide (val l = 0))))] [(0, some (Blk.mk [D.bool s, du l] true))] 6)) (fun K => by kernel_rfl) ?_
  exact ⟨rfl, h1, awp_ret ⟨.inl rfl, retD rfl⟩⟩

/-- results: two variables of two cells and a plain one -/
theorem retCCT {T : Tab} {c1 c2 t b1 b2 u : Nat} {s : St} {cs1 cs2 : List D} {l1 l2 : Bool} {d : D} (h1 : s.get c1 = .ptr b1 0) (h2 : s.blk b1 = some ⟨cs1, l1⟩) (h3 : s.get c2 = .ptr b2 0) (h4 : s.blk b2 = some ⟨cs2, l2⟩) (h5 : s.get u = .d d)
    (ha : Tab.agg T t = true) (hs1 : T.size t = cs1.length) (hs2 : T.size t = cs2.length) : RetOk T [.cell c1 t, .cell c2 t, .tmp u] (.tup [.agg cs1, .agg cs2, .d d]) [] s := by
  unfold RetOk evalRes
  rw [h1]
  simp only [h2, ha, if_true, evalRes, h3, h4, h5]
  refine ⟨by omega, by omega, .inl ⟨?_, trivial⟩⟩
  rw [List.drop_zero, List.drop_zero, hs1, List.take_of_length_le (Nat.le_refl _), ← hs1, hs2, List.take_of_length_le (Nat.le_refl _)]
  rfl
theorem retCT {T : Tab} {c1 t b1 u : Nat} {s : St} {cs1 : List D} {l1 : Bool} {d : D} (h1 : s.get c1 = .ptr b1 0) (h2 : s.blk b1 = some ⟨cs1, l1⟩) (h5 : s.get u = .d d)
    (ha : Tab.agg T t = true) (hs1 : T.size t = cs1.length) : RetOk T [.cell c1 t, .tmp u] (.tup [.agg cs1, .d d]) [] s := by
  unfold RetOk evalRes
  rw [h1]
  simp only [h2, ha, if_true, evalRes, h5]
  refine ⟨by omega, .inl ⟨?_, trivial⟩⟩
  rw [List.drop_zero, hs1, List.take_of_length_le (Nat.le_refl _)]
  rfl

theorem sgn_tdiv (s t : Bool) (m n : Nat) : (sgn s m).tdiv (sgn t n) = sgn (s != t) (m / n) := by
  have e : (m : Int).tdiv n = (m / n : Nat) := rfl
  cases s <;> cases t <;> simp [sgn, Int.tdiv_neg, Int.neg_tdiv, e]
theorem sgn_tmod (s t : Bool) (m n : Nat) : (sgn s m).tmod (sgn t n) = sgn s (m % n) := by
  have e : (m : Int).tmod n = (m % n : Nat) := rfl
  cases s <;> cases t <;> simp [sgn, Int.tmod_neg, Int.neg_tmod, e]

theorem quo_fn (s t : Bool) (l m : List Nat) (hl1 : l.length ≤ 2 ^ 38) (hm1 : m.length ≤ 2 ^ 38) (dl : Dg l) (dm : Dg m) (h0 : val m ≠ 0) :
    Fn Try.prog 233 [.agg (ic s l), .agg (ic t m)] [] (.tup [.agg (iz ((ival s l).tdiv (ival t m))), .agg (iz ((ival s l).tmod (ival t m))), .d (.int .i64 0)]) [] := by
  refine fn0 (nt := 32) (res := [.cell 4 46, .cell 5 46, .tmp 6]) Try.func233 rfl (by decide) rfl rfl rfl rfl ?_
  intro Cx hP hnt hl
  have hz := dzero_fn t m (by omega) dm
  rw [decide_eq_false h0] at hz
  have hlong := long_fn l m hl1 hm1 dl dm h0
  refine awp_sx prog_ok hP hnt [] [] [] [2, 3, 4, 5] (by kernel_rfl) (G := fun K => K (St.mk [(2, V.ptr 0 0), (3, V.ptr 1 0), (4, V.ptr 2 0), (5, V.ptr 3 0)] [(0, some (Blk.mk [D.bool s, du l] true)), (1, some (Blk.mk [D.bool t, du m] true)), (2, some (Blk.mk [D.bool false, D.lst 0 []] true)), (3, some (Blk.mk [D.bool false, D.lst 0 []] true))] 5)) (fun K => by kernel_rfl) ?_
  refine awp_seq_k fun K hK => ?_
  refine awp_sx prog_ok hP hnt [] [.val (.d (.bool false))] [] [2, 3, 4, 5, 10] (by kernel_rfl) (G := fun K => Fn Try.prog 234 [V.agg [D.bool t, du m]] [] (V.d (D.bool false)) [] ∧ K (St.mk [(2, V.ptr 0 0), (3, V.ptr 1 0), (4, V.ptr 2 0), (5, V.ptr 3 0), (10, V.d (D.bool false))] [(0, some (Blk.mk [D.bool s, du l] true)), (1, some (Blk.mk [D.bool t, du m] true)), (2, some (Blk.mk [D.bool false, D.lst 0 []] true)), (3, some (Blk.mk [D.bool false, D.lst 0 []] true))] 7)) (fun K => by kernel_rfl) ?_
  have hva := val_lt dl
  have hq : (dig (val l / val m)).length ≤ 2 ^ 40 := Nat.le_trans (dig_len (Nat.lt_of_le_of_lt (Nat.div_le_self _ _) hva)) (by omega)
  have hr : (dig (val l % val m)).length ≤ 2 ^ 40 := Nat.le_trans (dig_len (Nat.lt_of_le_of_lt (Nat.mod_le _ _) hva)) (by omega)
  have f1 := from_fn (s != t) (dig (val l / val m)) hq (dig_lt _)
  have f2 := from_fn s (dig (val l % val m)) hr (dig_lt _)
  rw [show ival (s != t) (dig (val l / val m)) = (ival s l).tdiv (ival t m) from by unfold ival; rw [val_dig, sgn_tdiv]] at f1
  rw [show ival s (dig (val l % val m)) = (ival s l).tmod (ival t m) from by unfold ival; rw [val_dig, sgn_tmod]] at f2
  refine ⟨hz, awp_cond (b := false) rfl nofun fun _ => awp_skip (hK _ ?_)⟩
  refine awp_sx prog_ok hP hnt [] [.val (.tup [.d (du (dig (val l / val m))), .d (du (dig (val l % val m)))])] [some [du l], some [du m]] [2, 3, 4, 5, 7, 8] (by kernel_rfl) (G := fun K => [D.bool s, du l][1]? = some (du l) ∧ [D.bool t, du m][1]? = some (du m) ∧ Fn Try.prog 240 [V.d (du l), V.d (du m)] [] (V.tup [V.d (du (dig (val l / val m))), V.d (du (dig (val l % val m)))]) [] ∧ K (St.mk [(2, V.ptr 0 0), (3, V.ptr 1 0), (4, V.ptr 2 0), (5, V.ptr 3 0), (7, V.d (du (dig (val l / val m)))), (8, V.d (du (dig (val l % val m))))] [(0, some (Blk.mk [D.bool s, du l] true)), (1, some (Blk.mk [D.bool t, du m] true)), (2, some (Blk.mk [D.bool false, D.lst 0 []] true)), (3, some (Blk.mk [D.bool false, D.lst 0 []] true))] 17)) (fun K => by kernel_rfl) ?_
  refine ⟨rfl, rfl, hlong, ?_⟩
  obtain ⟨Q, hQ⟩ : ∃ Q, Q = (ival s l).tdiv (ival t m) := ⟨_, rfl⟩
  obtain ⟨R, hR⟩ : ∃ R, R = (ival s l).tmod (ival t m) := ⟨_, rfl⟩
  rw [← hQ] at f1 ⊢
  rw [← hR] at f2 ⊢
  refine awp_sx prog_ok hP hnt [(25, .bool (s != t))] [.val (.agg (iz Q)), .val (.agg (iz R))] [some [.bool s], some [.bool t], some [.bool s]] [4, 5, 6] (by kernel_rfl) (G := fun K => [D.bool s, du l][0]? = some (D.bool s) ∧ [D.bool t, du m][0]? = some (D.bool t) ∧ (!s == t) = (s != t) ∧ Fn Try.prog 182 [V.d (D.bool (s != t)), V.d (du (dig (val l / val m)))] [] (V.agg [D.bool (decide (Q < (0 : Int))), du (dig Q.natAbs)]) [] ∧ [D.bool s, du l][0]? = some (D.bool s) ∧ Fn Try.prog 182 [V.d (D.bool s), V.d (du (dig (val l % val m)))] [] (V.agg [D.bool (decide (R < (0 : Int))), du (dig R.natAbs)]) [] ∧ 0 + (iz Q).length ≤ [D.bool false, D.lst 0 []].length ∧ 0 + (iz R).length ≤ [D.bool false, D.lst 0 []].length ∧ K (St.mk [(4, V.ptr 2 0), (5, V.ptr 3 0), (6, V.d (D.int IntKind.i64 (0 : Int)))] [(0, some (Blk.mk [D.bool s, du l] true)), (1, some (Blk.mk [D.bool t, du m] true)), (2, some (Blk.mk [D.bool (decide (Q < (0 : Int))), du (dig Q.natAbs)] true)), (3, some (Blk.mk [D.bool (decide (R < (0 : Int))), du (dig R.natAbs)] true))] 31)) (fun K => by kernel_rfl) ?_
  exact ⟨rfl, rfl, rfl, f1, rfl, f2, by simp [iz], by simp [iz], awp_ret ⟨.inl rfl, retCCT rfl rfl rfl rfl rfl rfl rfl rfl⟩⟩

/-- division of what is not negative -/
theorem floor_fn (l m : List Nat) (hl1 : l.length ≤ 2 ^ 38) (hm1 : m.length ≤ 2 ^ 38) (dl : Dg l) (dm : Dg m) (h0 : val m ≠ 0) :
    Fn Try.prog 189 [.agg (ic false l), .agg (ic false m)] [] (.tup [.agg (iz (val l / val m : Nat)), .agg (iz (val l % val m : Nat)), .d (.int .i64 0)]) [] := by
  refine fn0 (nt := 37) (res := [.cell 4 46, .cell 5 46, .tmp 6]) Try.func189 rfl (by decide) rfl rfl rfl rfl ?_
  intro Cx hP hnt hl
  have hq := quo_fn false false l m hl1 hm1 dl dm h0
  have eq : (ival false l).tdiv (ival false m) = (val l / val m : Nat) := rfl
  have er : (ival false l).tmod (ival false m) = (val l % val m : Nat) := rfl
  rw [eq, er] at hq
  have hva := val_lt dl
  have hr : (dig (val l % val m)).length ≤ 2 ^ 40 := Nat.le_trans (dig_len (Nat.lt_of_le_of_lt (Nat.mod_le _ _) hva)) (by omega)
  obtain ⟨Q, hQ⟩ : ∃ Q, Q = val l / val m := ⟨_, rfl⟩
  obtain ⟨R, hR⟩ : ∃ R, R = val l % val m := ⟨_, rfl⟩
  rw [← hQ, ← hR] at hq ⊢
  rw [← hR] at hr
  have hz := dzero_fn false (dig R) hr (dig_lt _)
  rw [val_dig] at hz
  have hiz : ic false (dig R) = iz (R : Int) := by rw [iz_ic, decide_eq_false (by omega)]; rfl
  rw [hiz] at hz
  refine awp_sx prog_ok hP hnt [] [] [] [2, 3, 4, 5] (by kernel_rfl) (G := fun K => K (St.mk [(2, V.ptr 0 0), (3, V.ptr 1 0), (4, V.ptr 2 0), (5, V.ptr 3 0)] [(0, some (Blk.mk [D.bool false, du l] true)), (1, some (Blk.mk [D.bool false, du m] true)), (2, some (Blk.mk [D.bool false, D.lst 0 []] true)), (3, some (Blk.mk [D.bool false, D.lst 0 []] true))] 5)) (fun K => by kernel_rfl) ?_
  refine awp_sx prog_ok hP hnt [] [.val (.tup [.agg (iz (Q : Nat)), .agg (iz (R : Nat)), .d (.int .i64 0)])] [some (ic false l), some (ic false m)] [3, 4, 5, 6] (by kernel_rfl) (G := fun K => ([D.bool false, du l][0]? = some (D.bool false) ∧ [D.bool false, du l][1]? = some (du l)) ∧ ([D.bool false, du m][0]? = some (D.bool false) ∧ [D.bool false, du m][1]? = some (du m)) ∧ Fn Try.prog 233 [V.agg [D.bool false, du l], V.agg [D.bool false, du m]] [] (V.tup [V.agg [D.bool (decide ((↑Q : Int) < (0 : Int))), du (dig (↑Q : Int).natAbs)], V.agg [D.bool (decide ((↑R : Int) < (0 : Int))), du (dig (↑R : Int).natAbs)], V.d (D.int IntKind.i64 (0 : Int))]) [] ∧ 0 + (iz (↑Q : Int)).length ≤ [D.bool false, D.lst 0 []].length ∧ 0 + (iz (↑R : Int)).length ≤ [D.bool false, D.lst 0 []].length ∧ K (St.mk [(3, V.ptr 1 0), (4, V.ptr 2 0), (5, V.ptr 3 0), (6, V.d (D.int IntKind.i64 (0 : Int)))] [(0, some (Blk.mk [D.bool false, du l] true)), (1, some (Blk.mk [D.bool false, du m] true)), (2, some (Blk.mk [D.bool (decide ((↑Q : Int) < (0 : Int))), du (dig (↑Q : Int).natAbs)] true)), (3, some (Blk.mk [D.bool (decide ((↑R : Int) < (0 : Int))), du (dig (↑R : Int).natAbs)] true))] 15)) (fun K => by kernel_rfl) ?_
  refine ⟨⟨rfl, rfl⟩, ⟨rfl, rfl⟩, hq, by simp [iz], by simp [iz], ?_⟩
  have hdR : decide ((R : Int) < 0) = false := decide_eq_false (by omega)
  refine awp_cut (ι := Unit) (fun _ => ⟨[(4, .ptr 0 0), (5, .ptr 1 0), (6, .d (.int .i64 0))], [(0, some ⟨iz (Q : Nat), true⟩), (1, some ⟨iz (R : Nat), true⟩)], 2⟩) (fun _ => True) ?_ ?_
  · by_cases hR0 : R = 0
    · rw [decide_eq_true hR0] at hz
      refine awp_sx prog_ok hP hnt [(15, .bool true), (19, .bool false), (20, .bool false)] [.val (.d (.bool true))] [some (iz (R : Nat))] [3, 4, 5, 6, 27] (by kernel_rfl) (G := fun K => ((0 : Int) == (0 : Int)) = true ∧ ([D.bool (decide ((↑R : Int) < (0 : Int))), du (dig (↑R : Int).natAbs)][0]? = some (D.bool (decide ((↑R : Int) < (0 : Int)))) ∧ [D.bool (decide ((↑R : Int) < (0 : Int))), du (dig (↑R : Int).natAbs)][1]? = some (du (dig (↑R : Int).natAbs))) ∧ Fn Try.prog 234 [V.agg [D.bool (decide ((↑R : Int) < (0 : Int))), du (dig (↑R : Int).natAbs)]] [] (V.d (D.bool true)) [] ∧ (!true) = false ∧ false = false ∧ K (St.mk [(3, V.ptr 1 0), (4, V.ptr 2 0), (5, V.ptr 3 0), (6, V.d (D.int IntKind.i64 (0 : Int))), (27, V.d (D.bool false))] [(0, some (Blk.mk [D.bool false, du l] true)), (1, some (Blk.mk [D.bool false, du m] true)), (2, some (Blk.mk [D.bool (decide ((↑Q : Int) < (0 : Int))), du (dig (↑Q : Int).natAbs)] true)), (3, some (Blk.mk [D.bool (decide ((↑R : Int) < (0 : Int))), du (dig (↑R : Int).natAbs)] true))] 29)) (fun K => by kernel_rfl) ?_
      refine ⟨rfl, ⟨rfl, rfl⟩, hz, rfl, rfl, awp_cond (b := false) rfl nofun fun _ => awp_skip ⟨(), [(0, 2), (1, 3)], trivial, ?_⟩⟩
      (constructor <;> simp [hl, envOk, memOk, conv, St.get, St.blk, iz])
    · rw [decide_eq_false hR0] at hz
      refine awp_sx prog_ok hP hnt [(15, .bool true), (19, .bool true), (20, .bool true), (26, .bool false)] [.val (.d (.bool false))] [some (iz (R : Nat)), some [.bool false], some [.bool false]] [3, 4, 5, 6, 27] (by kernel_rfl) (G := fun K => ((0 : Int) == (0 : Int)) = true ∧ ([D.bool (decide ((↑R : Int) < (0 : Int))), du (dig (↑R : Int).natAbs)][0]? = some (D.bool (decide ((↑R : Int) < (0 : Int)))) ∧ [D.bool (decide ((↑R : Int) < (0 : Int))), du (dig (↑R : Int).natAbs)][1]? = some (du (dig (↑R : Int).natAbs))) ∧ Fn Try.prog 234 [V.agg [D.bool (decide ((↑R : Int) < (0 : Int))), du (dig (↑R : Int).natAbs)]] [] (V.d (D.bool false)) [] ∧ (!false) = true ∧ true = true ∧ [D.bool (decide ((↑R : Int) < (0 : Int))), du (dig (↑R : Int).natAbs)][0]? = some (D.bool false) ∧ [D.bool false, du m][0]? = some (D.bool false) ∧ (!false == false) = false ∧ K (St.mk [(3, V.ptr 1 0), (4, V.ptr 2 0), (5, V.ptr 3 0), (6, V.d (D.int IntKind.i64 (0 : Int))), (27, V.d (D.bool false))] [(0, some (Blk.mk [D.bool false, du l] true)), (1, some (Blk.mk [D.bool false, du m] true)), (2, some (Blk.mk [D.bool (decide ((↑Q : Int) < (0 : Int))), du (dig (↑Q : Int).natAbs)] true)), (3, some (Blk.mk [D.bool (decide ((↑R : Int) < (0 : Int))), du (dig (↑R : Int).natAbs)] true))] 29)) (fun K => by kernel_rfl) ?_
      refine ⟨rfl, ⟨rfl, rfl⟩, hz, rfl, rfl, by rw [hdR]; rfl, rfl, rfl, awp_cond (b := false) rfl nofun fun _ => awp_skip ⟨(), [(0, 2), (1, 3)], trivial, ?_⟩⟩
      (constructor <;> simp [hl, envOk, memOk, conv, St.get, St.blk, iz])
  intro _ _
  refine awp_sx prog_ok hP hnt [] [] [some (iz (Q : Nat)), some (iz (R : Nat))] [4, 5, 6] (by kernel_rfl) (G := fun K => ((iz (↑Q : Int))[0]? = some (D.bool (decide ((↑Q : Int) < (0 : Int)))) ∧ (iz (↑Q : Int))[1]? = some (du (dig (↑Q : Int).natAbs))) ∧ ((iz (↑R : Int))[0]? = some (D.bool (decide ((↑R : Int) < (0 : Int)))) ∧ (iz (↑R : Int))[1]? = some (du (dig (↑R : Int).natAbs))) ∧ 0 + (iz (↑Q : Int)).length ≤ (iz (↑Q : Int)).length ∧ 0 + (iz (↑R : Int)).length ≤ (iz (↑R : Int)).length ∧ K (St.mk [(4, V.ptr 0 0), (5, V.ptr 1 0), (6, V.d (D.int IntKind.i64 (0 : Int)))] [(0, some (Blk.mk [D.bool (decide ((↑Q : Int) < (0 : Int))), du (dig (↑Q : Int).natAbs)] true)), (1, some (Blk.mk [D.bool (decide ((↑R : Int) < (0 : Int))), du (dig (↑R : Int).natAbs)] true))] 8)) (fun K => by kernel_rfl) ?_
  exact ⟨⟨rfl, rfl⟩, ⟨rfl, rfl⟩, by omega, by omega, awp_ret ⟨.inl rfl, retCCT rfl rfl rfl rfl rfl rfl rfl rfl⟩⟩

theorem iz_zero' : iz 0 = [.bool false, .lst 0 []] := by unfold iz; rw [show (0 : Int).natAbs = 0 from rfl, dig_zero]; rfl

theorem exact_fn (s t : Bool) (l m : List Nat) (hl1 : l.length ≤ 2 ^ 38) (hm1 : m.length ≤ 2 ^ 38) (dl : Dg l) (dm : Dg m) (h0 : val m ≠ 0) :
    Fn Try.prog 204 [.agg (ic s l), .agg (ic t m)] [] (.tup [.agg (iz (if ival t m ∣ ival s l then (ival s l).tdiv (ival t m) else 0)), .d (.int .i64 (if ival t m ∣ ival s l then 0 else 3))]) [] := by
  refine fn0 (nt := 26) (res := [.cell 4 46, .tmp 5]) Try.func204 rfl (by decide) rfl rfl rfl rfl ?_
  intro Cx hP hnt hl
  have hq := quo_fn s t l m hl1 hm1 dl dm h0
  refine awp_sx prog_ok hP hnt [] [] [] [2, 3, 4] (by kernel_rfl) (G := fun K => K (St.mk [(2, V.ptr 0 0), (3, V.ptr 1 0), (4, V.ptr 2 0)] [(0, some (Blk.mk [D.bool s, du l] true)), (1, some (Blk.mk [D.bool t, du m] true)), (2, some (Blk.mk [D.bool false, D.lst 0 []] true))] 4)) (fun K => by kernel_rfl) ?_
  obtain ⟨Q, hQ⟩ : ∃ Q, Q = (ival s l).tdiv (ival t m) := ⟨_, rfl⟩
  obtain ⟨R, hR⟩ : ∃ R, R = (ival s l).tmod (ival t m) := ⟨_, rfl⟩
  have hRn : R.natAbs ≤ val l := by
    rw [hR]; unfold ival; rw [sgn_tmod, sgn_abs]; exact Nat.mod_le _ _
  have hr : (dig R.natAbs).length ≤ 2 ^ 40 := Nat.le_trans (dig_len (Nat.lt_of_le_of_lt hRn (val_lt dl))) (by omega)
  have hz := dzero_fn (decide (R < 0)) (dig R.natAbs) hr (dig_lt _)
  rw [val_dig, ← iz_ic] at hz
  have hdvd : ival t m ∣ ival s l ↔ R = 0 := by rw [hR]; exact Int.dvd_iff_tmod_eq_zero
  rw [← hQ, ← hR] at hq
  rw [← hQ]
  refine awp_sx prog_ok hP hnt [] [.val (.tup [.agg (iz Q), .agg (iz R), .d (.int .i64 0)])] [some (ic s l), some (ic t m)] [4, 6, 7, 8] (by kernel_rfl) (G := fun K => ([D.bool s, du l][0]? = some (D.bool s) ∧ [D.bool s, du l][1]? = some (du l)) ∧ ([D.bool t, du m][0]? = some (D.bool t) ∧ [D.bool t, du m][1]? = some (du m)) ∧ Fn Try.prog 233 [V.agg [D.bool s, du l], V.agg [D.bool t, du m]] [] (V.tup [V.agg [D.bool (decide (Q < (0 : Int))), du (dig Q.natAbs)], V.agg [D.bool (decide (R < (0 : Int))), du (dig R.natAbs)], V.d (D.int IntKind.i64 (0 : Int))]) [] ∧ 0 + (iz Q).length ≤ (TI.mk (Kind.struct [(0, 1), (1, 1)]) 2 32 [D.bool false, D.lst 0 []]).zero.length ∧ 0 + (iz R).length ≤ (TI.mk (Kind.struct [(0, 1), (1, 1)]) 2 32 [D.bool false, D.lst 0 []]).zero.length ∧ K (St.mk [(4, V.ptr 2 0), (6, V.ptr 11 0), (7, V.ptr 12 0), (8, V.d (D.int IntKind.i64 (0 : Int)))] [(0, some (Blk.mk [D.bool s, du l] true)), (1, some (Blk.mk [D.bool t, du m] true)), (2, some (Blk.mk [D.bool false, D.lst 0 []] true)), (11, some (Blk.mk [D.bool (decide (Q < (0 : Int))), du (dig Q.natAbs)] true)), (12, some (Blk.mk [D.bool (decide (R < (0 : Int))), du (dig R.natAbs)] true))] 16)) (fun K => by kernel_rfl) ?_
  refine ⟨⟨rfl, rfl⟩, ⟨rfl, rfl⟩, hq, by simp [iz], by simp [iz], ?_⟩
  by_cases hR0 : R = 0
  · rw [if_pos (hdvd.2 hR0), if_pos (hdvd.2 hR0)]
    refine awp_seq_k fun K hK => ?_
    rw [decide_eq_true (by rw [hR0]; rfl)] at hz
    refine awp_sx prog_ok hP hnt [(17, .bool true), (21, .bool false), (22, .bool false)] [.val (.d (.bool true))] [some (iz R)] [4, 6, 8, 22] (by kernel_rfl) (G := fun K => ((0 : Int) == (0 : Int)) = true ∧ ([D.bool (decide (R < (0 : Int))), du (dig R.natAbs)][0]? = some (D.bool (decide (R < (0 : Int)))) ∧ [D.bool (decide (R < (0 : Int))), du (dig R.natAbs)][1]? = some (du (dig R.natAbs))) ∧ Fn Try.prog 234 [V.agg [D.bool (decide (R < (0 : Int))), du (dig R.natAbs)]] [] (V.d (D.bool true)) [] ∧ (!true) = false ∧ false = false ∧ K (St.mk [(4, V.ptr 2 0), (6, V.ptr 11 0), (8, V.d (D.int IntKind.i64 (0 : Int))), (22, V.d (D.bool false))] [(0, some (Blk.mk [D.bool s, du l] true)), (1, some (Blk.mk [D.bool t, du m] true)), (2, some (Blk.mk [D.bool false, D.lst 0 []] true)), (11, some (Blk.mk [D.bool (decide (Q < (0 : Int))), du (dig Q.natAbs)] true)), (12, some (Blk.mk [D.bool (decide (R < (0 : Int))), du (dig R.natAbs)] true))] 23)) (fun K => by kernel_rfl) ?_
    refine ⟨rfl, ⟨rfl, rfl⟩, hz, rfl, rfl, awp_cond (b := false) rfl nofun fun _ => awp_skip (hK _ ?_)⟩
    refine awp_sx prog_ok hP hnt [] [] [some (iz Q)] [4, 5] (by kernel_rfl) (G := fun K => ([D.bool (decide (Q < (0 : Int))), du (dig Q.natAbs)][0]? = some (D.bool (decide (Q < (0 : Int)))) ∧ [D.bool (decide (Q < (0 : Int))), du (dig Q.natAbs)][1]? = some (du (dig Q.natAbs))) ∧ 0 + (iz Q).length ≤ [D.bool false, D.lst 0 []].length ∧ K (St.mk [(4, V.ptr 2 0), (5, V.d (D.int IntKind.i64 (0 : Int)))] [(0, some (Blk.mk [D.bool s, du l] true)), (1, some (Blk.mk [D.bool t, du m] true)), (2, some (Blk.mk [D.bool (decide (Q < (0 : Int))), du (dig Q.natAbs)] true)), (11, some (Blk.mk [D.bool (decide (Q < (0 : Int))), du (dig Q.natAbs)] true)), (12, some (Blk.mk [D.bool (decide (R < (0 : Int))), du (dig R.natAbs)] true))] 27)) (fun K => by kernel_rfl) ?_
    exact ⟨⟨rfl, rfl⟩, by simp [iz], awp_ret ⟨.inl rfl, retCT rfl rfl rfl rfl rfl⟩⟩
  · have hnd : ¬ ival t m ∣ ival s l := fun h => hR0 (hdvd.1 h)
    rw [if_neg hnd, if_neg hnd]
    refine awp_seq_k fun K hK => ?_
    rw [decide_eq_false (by omega)] at hz
    refine awp_sx prog_ok hP hnt [(17, .bool true), (21, .bool true), (22, .bool true)] [.val (.d (.bool false))] [some (iz R)] [4, 6, 8, 22] (by kernel_rfl) (G := fun K => ((0 : Int) == (0 : Int)) = true ∧ ([D.bool (decide (R < (0 : Int))), du (dig R.natAbs)][0]? = some (D.bool (decide (R < (0 : Int)))) ∧ [D.bool (decide (R < (0 : Int))), du (dig R.natAbs)][1]? = some (du (dig R.natAbs))) ∧ Fn Try.prog 234 [V.agg [D.bool (decide (R < (0 : Int))), du (dig R.natAbs)]] [] (V.d (D.bool false)) [] ∧ (!false) = true ∧ true = true ∧ K (St.mk [(4, V.ptr 2 0), (6, V.ptr 11 0), (8, V.d (D.int IntKind.i64 (0 : Int))), (22, V.d (D.bool true))] [(0, some (Blk.mk [D.bool s, du l] true)), (1, some (Blk.mk [D.bool t, du m] true)), (2, some (Blk.mk [D.bool false, D.lst 0 []] true)), (11, some (Blk.mk [D.bool (decide (Q < (0 : Int))), du (dig Q.natAbs)] true)), (12, some (Blk.mk [D.bool (decide (R < (0 : Int))), du (dig R.natAbs)] true))] 23)) (fun K => by kernel_rfl) ?_
    refine ⟨rfl, ⟨rfl, rfl⟩, hz, rfl, rfl, awp_cond (b := true) rfl (fun _ => ?_) nofun⟩
    refine awp_sx prog_ok hP hnt [] [] [] [4, 5] (by kernel_rfl) (G := fun K => 2 ≤ [D.bool false, D.lst 0 []].length ∧ K (St.mk [(4, V.ptr 2 0), (5, V.d (D.int IntKind.i64 (3 : Int)))] [(0, some (Blk.mk [D.bool s, du l] true)), (1, some (Blk.mk [D.bool t, du m] true)), (2, some (Blk.mk [D.bool false, D.lst 0 []] true)), (11, some (Blk.mk [D.bool (decide (Q < (0 : Int))), du (dig Q.natAbs)] true)), (12, some (Blk.mk [D.bool (decide (R < (0 : Int))), du (dig R.natAbs)] true))] 26)) (fun K => by kernel_rfl) ?_
    refine ⟨by simp, awp_ret ⟨.inl rfl, retCT (l1 := true) rfl (by rw [iz_zero']; rfl) rfl rfl rfl⟩⟩

theorem ishl_fn (s : Bool) (l : List Nat) (k : Nat) (h : l.length ≤ 2 ^ 39) (hd : Dg l) (hk : k ≤ 16777216) : Fn Try.prog 206 [.agg (ic s l), .d (.int .i64 k)] [] (.agg (iz (ival s l * 2 ^ k))) [] := by
  refine fn0 (nt := 12) (res := [.cell 4 46]) Try.func206 rfl (by decide) rfl rfl rfl rfl ?_
  intro Cx hP hnt hl
  have h1 := shl_fn l k h hd hk
  have h2 := made_fn' (s := s) (n := val l * 2 ^ k) (z := ival s l * 2 ^ k) (by unfold ival sgn; cases s <;> simp [Int.neg_mul])
  refine awp_sx prog_ok hP hnt [] [] [] [1, 2, 4] (by kernel_rfl) (G := fun K => K (St.mk [(1, V.d (D.int IntKind.i64 (↑k : Int))), (2, V.ptr 0 0), (4, V.ptr 1 0)] [(0, some (Blk.mk [D.bool s, du l] true)), (1, some (Blk.mk [D.bool false, D.lst 0 []] true))] 2)) (fun K => by kernel_rfl) ?_
  refine awp_sx prog_ok hP hnt [] [.val (.d (du (dig (val l * 2 ^ k)))), .val (.agg (iz (ival s l * 2 ^ k)))] [some [.bool s], some [du l]] [4] (by kernel_rfl) (G := fun K => [D.bool s, du l][0]? = some (D.bool s) ∧ [D.bool s, du l][1]? = some (du l) ∧ Fn Try.prog 154 [V.d (du l), V.d (D.int IntKind.i64 (↑k : Int))] [] (V.d (du (dig (val l * 2 ^ k)))) [] ∧ Fn Try.prog 171 [V.d (D.bool s), V.d (du (dig (val l * 2 ^ k)))] [] (V.agg [D.bool (decide (ival s l * (2 : Int) ^ k < (0 : Int))), du (dig (ival s l * (2 : Int) ^ k).natAbs)]) [] ∧ 0 + (iz (ival s l * (2 : Int) ^ k)).length ≤ [D.bool false, D.lst 0 []].length ∧ K (St.mk [(4, V.ptr 1 0)] [(0, some (Blk.mk [D.bool s, du l] true)), (1, some (Blk.mk [D.bool (decide (ival s l * (2 : Int) ^ k < (0 : Int))), du (dig (ival s l * (2 : Int) ^ k).natAbs)] true))] 10)) (fun K => by kernel_rfl) ?_
  exact ⟨rfl, rfl, h1, h2, by simp [iz], awp_ret ⟨.inl rfl, retC (l := true) rfl rfl rfl rfl⟩⟩

theorem ibitlen_fn (s : Bool) (l : List Nat) (h : l.length ≤ 2 ^ 40) (hd : Dg l) : Fn Try.prog 190 [.agg (ic s l)] [] (.d (.int .i64 (blen (val l)))) [] := by
  refine fn0 (nt := 6) (res := [.tmp 2]) Try.func190 rfl (by decide) rfl rfl rfl rfl ?_
  intro Cx hP hnt hl
  have h1 := bitlen_fn l h hd
  refine awp_sx prog_ok hP hnt [] [] [] [1] (by kernel_rfl) (G := fun K => K (St.mk [(1, V.ptr 0 0)] [(0, some (Blk.mk [D.bool s, du l] true))] 2)) (fun K => by kernel_rfl) ?_
  refine awp_sx prog_ok hP hnt [] [.val (.d (.int .i64 (blen (val l))))] [some [du l]] [2] (by kernel_rfl) (G := fun K => [D.bool s, du l][1]? = some (du l) ∧ Fn Try.prog 235 [V.d (du l)] [] (V.d (D.int IntKind.i64 (↑(blen (val l)) : Int))) [] ∧ K (St.mk [(2, V.d (D.int IntKind.i64 (↑(blen (val l)) : Int)))] [(0, some (Blk.mk [D.bool s, du l] true))] 6)) (fun K => by kernel_rfl) ?_
  exact ⟨rfl, h1, awp_ret ⟨.inl rfl, retD rfl⟩⟩

theorem igcd_fn (s t : Bool) (l m : List Nat) (hl1 : l.length ≤ 2 ^ 38) (hm1 : m.length ≤ 2 ^ 38) (dl : Dg l) (dm : Dg m) :
    Fn Try.prog 202 [.agg (ic s l), .agg (ic t m)] [] (.agg (iz (Nat.gcd (val l) (val m) : Nat))) [] := by
  refine fn0 (nt := 53) (res := [.cell 4 46]) Try.func202 rfl (by decide) rfl rfl rfl rfl ?_
  intro Cx hP hnt hl
  have n1 := nnorm_fn l (by omega) dl
  have n2 := nnorm_fn m (by omega) dm
  have k1 := dig_le dl
  have k2 := dig_le dm
  refine awp_sx prog_ok hP hnt [] [] [] [2, 3, 4] (by kernel_rfl) (G := fun K => K (St.mk [(2, V.ptr 0 0), (3, V.ptr 1 0), (4, V.ptr 2 0)] [(0, some (Blk.mk [D.bool s, du l] true)), (1, some (Blk.mk [D.bool t, du m] true)), (2, some (Blk.mk [D.bool false, D.lst 0 []] true))] 3)) (fun K => by kernel_rfl) ?_
  refine awp_sx prog_ok hP hnt [] [.val (.d (du (dig (val l)))), .val (.d (du (dig (val m))))] [some [du l], some [du m]] [4, 5, 6] (by kernel_rfl) (G := fun K => [D.bool s, du l][1]? = some (du l) ∧ Fn Try.prog 230 [V.d (du l)] [] (V.d (du (dig (val l)))) [] ∧ [D.bool t, du m][1]? = some (du m) ∧ Fn Try.prog 230 [V.d (du m)] [] (V.d (du (dig (val m)))) [] ∧ K (St.mk [(4, V.ptr 2 0), (5, V.d (du (dig (val l)))), (6, V.d (du (dig (val m))))] [(0, some (Blk.mk [D.bool s, du l] true)), (1, some (Blk.mk [D.bool t, du m] true)), (2, some (Blk.mk [D.bool false, D.lst 0 []] true))] 11)) (fun K => by kernel_rfl) ?_
  refine ⟨rfl, n1, rfl, n2, ?_⟩
  obtain ⟨G, hG⟩ : ∃ G, G = Nat.gcd (val l) (val m) := ⟨_, rfl⟩
  obtain ⟨a, ha⟩ : ∃ a, a = val l := ⟨_, rfl⟩
  obtain ⟨b, hb⟩ : ∃ b, b = val m := ⟨_, rfl⟩
  rw [← hG]
  rw [← ha] at k1 hG ⊢
  rw [← hb] at k2 hG ⊢
  have hl2 : l.length ≤ 2 ^ 38 := hl1
  have ka : (dig a).length ≤ 2 ^ 38 := by omega
  have kb : (dig b).length ≤ 2 ^ 38 := by omega
  have hfr : ∀ g : Nat, (dig g).length ≤ 2 ^ 40 → Fn Try.prog 182 [.d (.bool false), .d (du (dig g))] [] (.agg (iz (g : Nat))) [] := fun g hg => by
    have := from_fn false (dig g) hg (dig_lt g)
    rwa [show ival false (dig g) = (g : Int) from by unfold ival sgn; rw [val_dig]; simp] at this
  have hmod : ∀ x y : Nat, (dig (x % y)).length ≤ (dig x).length := fun x y => dig_len (Nat.lt_of_le_of_lt (Nat.mod_le _ _) (by have := val_lt (dig_lt x); rwa [val_dig] at this))
  refine awp_cut (ι := Unit) (fun _ => ⟨[(4, .ptr 0 0), (5, .d (du (dig G)))], [(0, some ⟨[.bool false, .lst 0 []], true⟩)], 1⟩) (fun _ => (dig G).length ≤ 2 ^ 38) ?_ ?_
  · refine awp_block ?_
    refine awp_loop (ι := Nat × Nat) (fun ⟨x, y⟩ => ⟨[(4, .ptr 0 0), (5, .d (du (dig x))), (6, .d (du (dig y)))], [(0, some ⟨[.bool false, .lst 0 []], true⟩)], 1⟩) (fun ⟨x, y⟩ => Nat.gcd x y = G ∧ (dig x).length ≤ 2 ^ 38 ∧ (dig y).length ≤ 2 ^ 38) (fun ⟨x, y⟩ => y) (a, b) [(0, 2)] ⟨hG.symm, ka, kb⟩ ?_ ?_
    · (constructor <;> simp [hl, envOk, memOk, conv, St.get, St.blk])
    rintro ⟨x, y⟩ ⟨hg, hx, hy⟩
    refine awp_seq_k fun K1 hK1 => ?_
    refine awp_sx prog_ok hP hnt [] [] [] [4, 5, 6, 21] (by kernel_rfl) (G := fun K => K (St.mk [(4, V.ptr 0 0), (5, V.d (du (dig x))), (6, V.d (du (dig y))), (21, V.d (D.bool (decide ((↑(dig y).length : Int) > (0 : Int)))))] [(0, some (Blk.mk [D.bool false, D.lst 0 []] true))] 4)) (fun K => by kernel_rfl) ?_
    refine awp_cond rfl (fun e => awp_skip (hK1 _ ?_)) (fun e => awp_exit ⟨(), [(0, 0)], ?_, ?_⟩)
    · simp at e
      have hy0 : y ≠ 0 := fun h => by subst h; rw [dig_zero] at e; simp at e
      have u1 := uint64_fn (dig x) (by omega) (dig_lt x)
      have u2 := uint64_fn (dig y) (by omega) (dig_lt y)
      rw [val_dig] at u1 u2
      have hlo := long_fn (dig x) (dig y) hx hy (dig_lt x) (dig_lt y) (by rw [val_dig]; exact hy0)
      rw [val_dig, val_dig] at hlo
      refine awp_block ?_
      refine awp_cut (ι := Unit) (fun _ => ⟨[(4, .ptr 0 0), (5, .d (du (dig x))), (6, .d (du (dig y)))], [(0, some ⟨[.bool false, .lst 0 []], true⟩)], 1⟩) (fun _ => True) ?_ ?_
      · refine awp_sx prog_ok hP hnt [] [.val (.tup [.d (.int .u64 (if x < 18446744073709551616 then x else 0 : Nat)), .d (.bool (decide (x < 18446744073709551616)))])] [] [4, 5, 6, 7, 8] (by kernel_rfl) (G := fun K => Fn Try.prog 239 [V.d (du (dig x))] [] (V.tup [V.d (D.int IntKind.u64 (↑(if x < 18446744073709551616 then x else 0) : Int)), V.d (D.bool (decide (x < 18446744073709551616)))]) [] ∧ K (St.mk [(4, V.ptr 0 0), (5, V.d (du (dig x))), (6, V.d (du (dig y))), (7, V.d (D.int IntKind.u64 (↑(if x < 18446744073709551616 then x else 0) : Int))), (8, V.d (D.bool (decide (x < 18446744073709551616))))] [(0, some (Blk.mk [D.bool false, D.lst 0 []] true))] 11)) (fun K => by kernel_rfl) ?_
        refine ⟨u1, ?_⟩
        refine awp_sx prog_ok hP hnt [] [] [] [4, 5, 6, 7, 27] (by kernel_rfl) (G := fun K => K (St.mk [(4, V.ptr 0 0), (5, V.d (du (dig x))), (6, V.d (du (dig y))), (7, V.d (D.int IntKind.u64 (↑(if x < 18446744073709551616 then x else 0) : Int))), (27, V.d (D.bool (decide (x < 18446744073709551616))))] [(0, some (Blk.mk [D.bool false, D.lst 0 []] true))] 12)) (fun K => by kernel_rfl) ?_
        refine awp_cond rfl (fun e1 => ?_) (fun e1 => awp_skip ⟨(), [(0, 0)], trivial, ?_⟩)
        · have hx64 := of_decide_eq_true e1
          rw [if_pos hx64]
          refine awp_sx prog_ok hP hnt [] [.val (.tup [.d (.int .u64 (if y < 18446744073709551616 then y else 0 : Nat)), .d (.bool (decide (y < 18446744073709551616)))])] [] [4, 5, 6, 7, 9, 10] (by kernel_rfl) (G := fun K => Fn Try.prog 239 [V.d (du (dig y))] [] (V.tup [V.d (D.int IntKind.u64 (↑(if y < 18446744073709551616 then y else 0) : Int)), V.d (D.bool (decide (y < 18446744073709551616)))]) [] ∧ K (St.mk [(4, V.ptr 0 0), (5, V.d (du (dig x))), (6, V.d (du (dig y))), (7, V.d (D.int IntKind.u64 (↑x : Int))), (9, V.d (D.int IntKind.u64 (↑(if y < 18446744073709551616 then y else 0) : Int))), (10, V.d (D.bool (decide (y < 18446744073709551616))))] [(0, some (Blk.mk [D.bool false, D.lst 0 []] true))] 19)) (fun K => by kernel_rfl) ?_
          refine ⟨u2, ?_⟩
          refine awp_sx prog_ok hP hnt [] [] [] [4, 5, 6, 7, 9, 33] (by kernel_rfl) (G := fun K => K (St.mk [(4, V.ptr 0 0), (5, V.d (du (dig x))), (6, V.d (du (dig y))), (7, V.d (D.int IntKind.u64 (↑x : Int))), (9, V.d (D.int IntKind.u64 (↑(if y < 18446744073709551616 then y else 0) : Int))), (33, V.d (D.bool (decide (y < 18446744073709551616))))] [(0, some (Blk.mk [D.bool false, D.lst 0 []] true))] 20)) (fun K => by kernel_rfl) ?_
          refine awp_cond rfl (fun e2 => ?_) (fun e2 => awp_skip ⟨(), [(0, 0)], trivial, ?_⟩)
          · have hy64 := of_decide_eq_true e2
            rw [if_pos hy64]
            refine awp_cut (ι := Unit) (fun _ => ⟨[(4, .ptr 0 0), (7, .d (.int .u64 G))], [(0, some ⟨[.bool false, .lst 0 []], true⟩)], 1⟩) (fun _ => G < 18446744073709551616) ?_ ?_
            · refine awp_block ?_
              refine awp_loop (ι := Nat × Nat) (fun ⟨x, y⟩ => ⟨[(4, .ptr 0 0), (7, .d (.int .u64 x)), (9, .d (.int .u64 y))], [(0, some ⟨[.bool false, .lst 0 []], true⟩)], 1⟩) (fun ⟨x, y⟩ => Nat.gcd x y = G ∧ x < 18446744073709551616 ∧ y < 18446744073709551616) (fun ⟨x, y⟩ => y) (x, y) [(0, 0)] ⟨hg, hx64, hy64⟩ ?_ ?_
              · (constructor <;> simp [hl, envOk, memOk, conv, St.get, St.blk])
              rintro ⟨p, q⟩ ⟨hpg, hp64, hq64⟩
              refine awp_seq_k fun K2 hK2 => ?_
              refine awp_sx prog_ok hP hnt [] [] [] [4, 7, 9, 35] (by kernel_rfl) (G := fun K => K (St.mk [(4, V.ptr 0 0), (7, V.d (D.int IntKind.u64 (↑p : Int))), (9, V.d (D.int IntKind.u64 (↑q : Int))), (35, V.d (D.bool ((↑q : Int) != (0 : Int))))] [(0, some (Blk.mk [D.bool false, D.lst 0 []] true))] 3)) (fun K => by kernel_rfl) ?_
              refine awp_cond rfl (fun e3 => awp_skip (hK2 _ ?_)) (fun e3 => awp_exit ⟨(), [(0, 0)], ?_, ?_⟩)
              · simp at e3
                have em : (p : Int).tmod q = (p % q : Nat) := rfl
                have hml : p % q < q := Nat.mod_lt _ (by omega)
                refine awp_block ?_
                refine awp_x prog_ok hP hnt [(39, .int .u64 (p % q : Nat))] [] [] [4, 7, 9] (by kernel_rfl) (G := fun K => (↑q : Int) ≠ (0 : Int) ∧ (↑p : Int).tmod (↑q : Int) = (↑(p % q) : Int) ∧ K (St.mk [(4, V.ptr 0 0), (7, V.d (D.int IntKind.u64 (↑q : Int))), (9, V.d (D.int IntKind.u64 (↑(p % q) : Int)))] [(0, some (Blk.mk [D.bool false, D.lst 0 []] true))] 9)) (fun K => by kernel_rfl) ?_
                refine ⟨by omega, em, (q, p % q), [(0, 0)], ⟨⟨by rw [← hpg, Nat.gcd_comm p q, Nat.gcd_rec q p, Nat.gcd_comm], hq64, by omega⟩, hml⟩, ?_⟩
                (constructor <;> simp [hl, envOk, memOk, conv, St.get, St.blk])
              · simp at e3
                subst e3
                rw [Nat.gcd_zero_right] at hpg
                omega
              · simp at e3
                subst e3
                rw [Nat.gcd_zero_right] at hpg
                subst hpg
                (constructor <;> simp [hl, envOk, memOk, conv, St.get, St.blk])
            intro _ hG64
            have ho := of_fn G hG64
            have hG2 : (dig G).length ≤ 2 := dig_len (by omega)
            refine awp_sx prog_ok hP hnt [] [.val (.d (du (dig G))), .val (.agg (iz (G : Nat)))] [] [4] (by kernel_rfl) (G := fun K => Fn Try.prog 155 [V.d (D.int IntKind.u64 (↑G : Int))] [] (V.d (du (dig G))) [] ∧ Fn Try.prog 182 [V.d (D.bool false), V.d (du (dig G))] [] (V.agg [D.bool (decide ((↑G : Int) < (0 : Int))), du (dig (↑G : Int).natAbs)]) [] ∧ 0 + (iz (↑G : Int)).length ≤ [D.bool false, D.lst 0 []].length ∧ K (St.mk [(4, V.ptr 0 0)] [(0, some (Blk.mk [D.bool (decide ((↑G : Int) < (0 : Int))), du (dig (↑G : Int).natAbs)] true))] 5)) (fun K => by kernel_rfl) ?_
            exact ⟨ho, hfr G (by omega), by simp [iz], awp_ret ⟨.inl rfl, retC (l := true) rfl rfl rfl rfl⟩⟩
          · (constructor <;> simp [hl, envOk, memOk, conv, St.get, St.blk])
        · (constructor <;> simp [hl, envOk, memOk, conv, St.get, St.blk])
      intro _ _
      refine awp_sx prog_ok hP hnt [] [.val (.tup [.d (du (dig (x / y))), .d (du (dig (x % y)))])] [] [4, 6, 12] (by kernel_rfl) (G := fun K => Fn Try.prog 240 [V.d (du (dig x)), V.d (du (dig y))] [] (V.tup [V.d (du (dig (x / y))), V.d (du (dig (x % y)))]) [] ∧ K (St.mk [(4, V.ptr 0 0), (6, V.d (du (dig y))), (12, V.d (du (dig (x % y))))] [(0, some (Blk.mk [D.bool false, D.lst 0 []] true))] 9)) (fun K => by kernel_rfl) ?_
      refine ⟨hlo, ?_⟩
      refine awp_x prog_ok hP hnt [] [] [] [4, 5, 6] (by kernel_rfl) (G := fun K => K (St.mk [(4, V.ptr 0 0), (6, V.d (du (dig (x % y)))), (5, V.d (du (dig y)))] [(0, some (Blk.mk [D.bool false, D.lst 0 []] true))] 13)) (fun K => by kernel_rfl) ?_
      refine ⟨(y, x % y), [(0, 0)], ⟨⟨by rw [← hg, Nat.gcd_comm x y, Nat.gcd_rec y x, Nat.gcd_comm], hy, by have := hmod x y; omega⟩, Nat.mod_lt _ (by omega)⟩, ?_⟩
      (constructor <;> simp [hl, envOk, memOk, conv, St.get, St.blk])
    · simp at e
      have hy0 : y = 0 := by rw [← val_dig y, e]; rfl
      subst hy0
      rw [Nat.gcd_zero_right] at hg
      rw [← hg]; exact hx
    · simp at e
      have hy0 : y = 0 := by rw [← val_dig y, e]; rfl
      subst hy0
      rw [Nat.gcd_zero_right] at hg
      subst hg
      (constructor <;> simp [hl, envOk, memOk, conv, St.get, St.blk])
  intro _ hGl
  refine awp_sx prog_ok hP hnt [] [.val (.agg (iz (G : Nat)))] [] [4] (by kernel_rfl) (G := fun K => Fn Try.prog 182 [V.d (D.bool false), V.d (du (dig G))] [] (V.agg [D.bool (decide ((↑G : Int) < (0 : Int))), du (dig (↑G : Int).natAbs)]) [] ∧ 0 + (iz (↑G : Int)).length ≤ [D.bool false, D.lst 0 []].length ∧ K (St.mk [(4, V.ptr 0 0)] [(0, some (Blk.mk [D.bool (decide ((↑G : Int) < (0 : Int))), du (dig (↑G : Int).natAbs)] true))] 4)) (fun K => by kernel_rfl) ?_
  exact ⟨hfr G (by omega), by simp [iz], awp_ret ⟨.inl rfl, retC (l := true) rfl rfl rfl rfl⟩⟩
end Go.Abs

set_option linter.unusedVariables false
set_option linter.unusedSimpArgs false
namespace Go.Abs
open Go Go.Proofs Poly
set_option maxRecDepth 100000

noncomputable def cm (f : Poly) : Nat → Nat
  | 0 => 0
  | k + 1 => max (cm f k) (((f.c k).natAbs + f.lc.natAbs - 1) / f.lc.natAbs)
noncomputable def cauchy (f : Poly) : Nat := if f.sz < 2 then 0 else cm f (f.sz - 1) + 1

theorem iz_nat (n : Nat) : iz (n : Int) = ic false (dig n) := by rw [iz_ic, decide_eq_false (by omega)]; rfl
theorem ceil_eq {a b : Nat} (hb : 0 < b) : (if a % b = 0 then a / b else a / b + 1) = (a + b - 1) / b := by
  have h := Nat.div_add_mod a b
  have hm := Nat.mod_lt a hb
  obtain ⟨q, hq⟩ : ∃ q, q = a / b := ⟨_, rfl⟩
  obtain ⟨r, hr⟩ : ∃ r, r = a % b := ⟨_, rfl⟩
  rw [← hq, ← hr] at h
  rw [← hr] at hm
  rw [← hq, ← hr]
  split
  · rename_i h0
    rw [← h, h0, Nat.add_zero, show b * q + b - 1 = b * q + (b - 1) by omega, Nat.mul_add_div hb, Nat.div_eq_of_lt (by omega), Nat.add_zero]
  · rename_i h0
    rw [← h, show b * q + r + b - 1 = b * (q + 1) + (r - 1) by rw [Nat.mul_add]; omega, Nat.mul_add_div hb, Nat.div_eq_of_lt (by omega), Nat.add_zero]

theorem ceil_le {a b : Nat} (hb : 0 < b) : (a + b - 1) / b ≤ a := by
  rw [← ceil_eq hb]
  split
  · exact Nat.div_le_self _ _
  · rename_i h
    have hb2 : 2 ≤ b := by
      rcases Nat.lt_or_ge b 2 with h2 | h2
      · exfalso; apply h
        have : b = 1 := by omega
        subst this; exact Nat.mod_one _
      · exact h2
    have ha : 0 < a := Nat.pos_of_ne_zero fun h0 => h (by rw [h0, Nat.zero_mod])
    exact Nat.div_lt_self ha hb2
theorem cm_lt {f : Poly} {K : Nat} (h0 : f.lc ≠ 0) (h : ∀ k, (f.c k).natAbs < 2 ^ K) : ∀ k, cm f k < 2 ^ K
  | 0 => Nat.pow_pos (by omega)
  | k + 1 => by
    have h1 := cm_lt h0 h k
    have h2 := ceil_le (a := (f.c k).natAbs) (b := f.lc.natAbs) (by omega)
    have h3 := h k
    unfold cm
    omega

theorem cauchyP {i : Nat} {ps : List RI} (hi : i ≤ 12) (hp : W i ps) : Fn Try.prog 104 [.d (rp ps)] [] (.agg (iz (cauchy (pol ps) : Nat))) [] := by
  refine fn0 (nt := 54) (res := [.cell 2 46]) Try.func104 rfl (by decide) rfl rfl rfl rfl ?_
  intro Cx hP hnt hl
  have hn := normP hi hp
  obtain ⟨f, hf⟩ : ∃ f, f = pol ps := ⟨_, rfl⟩
  have hlv : Lv i f := hf ▸ hp.lv
  rw [← hf] at hn ⊢
  have hw := hlv.w
  have hdg := degP hi hw
  have hld := leadP hi hw
  rw [pol_cp] at hdg hld
  have h4 := lim4 hi
  have h2 := lim2 hi
  have hsz : f.sz ≤ 2 ^ 36 := by have := hlv.len; omega
  have hz0 := iOf_fn 0 (by decide) (by decide)
  have hz1 := iOf_fn 1 (by decide) (by decide)
  refine awp_sx prog_ok hP hnt [] [] [] [0, 2] (by kernel_rfl) (G := fun K => K (St.mk [(0, V.d (rp ps)), (2, V.ptr 0 0)] [(0, some (Blk.mk [D.bool false, D.lst 0 []] true))] 1)) (fun K => by kernel_rfl) ?_
  refine awp_sx prog_ok hP hnt [] [.val (.d (rp (cp f)))] [] [2, 3] (by kernel_rfl) (G := fun K => Fn Try.prog 63 [V.d (rp ps)] [] (V.d (rp (cp f))) [] ∧ K (St.mk [(2, V.ptr 0 0), (3, V.d (rp (cp f)))] [(0, some (Blk.mk [D.bool false, D.lst 0 []] true))] 4)) (fun K => by kernel_rfl) ?_
  refine ⟨hn, ?_⟩
  refine awp_sx prog_ok hP hnt [] [.val (.d (.int .i64 ((f.sz : Int) - 1)))] [] [2, 3, 4] (by kernel_rfl) (G := fun K => Fn Try.prog 68 [V.d (rp (cp f))] [] (V.d (D.int IntKind.i64 ((↑f.sz : Int) - (1 : Int)))) [] ∧ K (St.mk [(2, V.ptr 0 0), (3, V.d (rp (cp f))), (4, V.d (D.int IntKind.i64 ((↑f.sz : Int) - (1 : Int))))] [(0, some (Blk.mk [D.bool false, D.lst 0 []] true))] 7)) (fun K => by kernel_rfl) ?_
  refine ⟨hdg, ?_⟩
  refine awp_seq_k fun K hK => ?_
  refine awp_sx prog_ok hP hnt [] [] [] [2, 3, 4, 17] (by kernel_rfl) (G := fun K => K (St.mk [(2, V.ptr 0 0), (3, V.d (rp (cp f))), (4, V.d (D.int IntKind.i64 ((↑f.sz : Int) - (1 : Int)))), (17, V.d (D.bool (decide ((↑f.sz : Int) - (1 : Int) < (1 : Int)))))] [(0, some (Blk.mk [D.bool false, D.lst 0 []] true))] 9)) (fun K => by kernel_rfl) ?_
  refine awp_cond rfl (fun e => ?_) (fun e => awp_skip (hK _ ?_))
  · simp at e
    refine awp_sx prog_ok hP hnt [] [.val (.agg (iz 0))] [] [2] (by kernel_rfl) (G := fun K => Fn Try.prog 74 [V.d (D.int IntKind.i64 (0 : Int))] [] (V.agg [D.bool (decide ((0 : Int) < (0 : Int))), du (dig (Int.natAbs (0 : Int)))]) [] ∧ 2 ≤ [D.bool false, D.lst 0 []].length ∧ K (St.mk [(2, V.ptr 0 0)] [(0, some (Blk.mk [D.bool (decide ((0 : Int) < (0 : Int))), du (dig (Int.natAbs (0 : Int)))] true))] 11)) (fun K => by kernel_rfl) ?_
    have h0 : cauchy f = 0 := by unfold cauchy; rw [if_pos (by omega)]
    rw [h0]
    exact ⟨hz0, by simp [iz], awp_ret ⟨.inl rfl, retC (l := true) rfl rfl rfl rfl⟩⟩
  simp at e
  obtain ⟨n, hn0⟩ : ∃ n, n + 1 = f.sz := ⟨f.sz - 1, by omega⟩
  have hlc0 : f.lc ≠ 0 := lc_ne (fun h => by have := eq_zero.1 h; omega)
  have en : (f.sz : Int) - 1 = (n : Nat) := by omega
  rw [en]
  have hbit : ∀ z : Int, z.natAbs < 4294967296 ^ (40 * 4 ^ i) → (dig z.natAbs).length ≤ 2 ^ 37 := fun z hz => Nat.le_trans (dig_len hz) (by omega)
  have hlcb : f.lc.natAbs < 4294967296 ^ (40 * 4 ^ i) := hlv.ok _
  have hldl := hbit _ hlcb
  obtain ⟨L, hL⟩ : ∃ L, L = f.lc.natAbs := ⟨_, rfl⟩
  have hL0 : 0 < L := by omega
  have hab := iabs_fn (decide (f.lc < 0)) (dig f.lc.natAbs) (by omega) (dig_lt _)
  rw [ival_iz, ← iz_ic] at hab
  rw [← hL] at hab hldl hlcb
  refine awp_sx prog_ok hP hnt [] [.val (.agg (iz f.lc)), .val (.agg (iz (L : Nat)))] [] [2, 3, 4, 5] (by kernel_rfl) (G := fun K => Fn Try.prog 62 [V.d (rp (cp f))] [] (V.agg [D.bool (decide (f.lc < (0 : Int))), du (dig f.lc.natAbs)]) [] ∧ Fn Try.prog 168 [V.agg [D.bool (decide (f.lc < (0 : Int))), du (dig f.lc.natAbs)]] [] (V.agg [D.bool (decide ((↑L : Int) < (0 : Int))), du (dig (↑L : Int).natAbs)]) [] ∧ 0 + (iz (↑L : Int)).length ≤ (TI.mk (Kind.struct [(0, 1), (1, 1)]) 2 32 [D.bool false, D.lst 0 []]).zero.length ∧ K (St.mk [(2, V.ptr 0 0), (3, V.d (rp (cp f))), (4, V.d (D.int IntKind.i64 (↑n : Int))), (5, V.ptr 12 0)] [(0, some (Blk.mk [D.bool false, D.lst 0 []] true)), (12, some (Blk.mk [D.bool (decide ((↑L : Int) < (0 : Int))), du (dig (↑L : Int).natAbs)] true))] 14)) (fun K => by kernel_rfl) ?_
  refine ⟨hld, hab, by simp [iz], ?_⟩
  refine awp_sx prog_ok hP hnt [] [.val (.agg (iz 0))] [] [2, 3, 4, 5, 6] (by kernel_rfl) (G := fun K => Fn Try.prog 74 [V.d (D.int IntKind.i64 (0 : Int))] [] (V.agg [D.bool (decide ((0 : Int) < (0 : Int))), du (dig (Int.natAbs (0 : Int)))]) [] ∧ 2 ≤ (TI.mk (Kind.struct [(0, 1), (1, 1)]) 2 32 [D.bool false, D.lst 0 []]).zero.length ∧ K (St.mk [(2, V.ptr 0 0), (3, V.d (rp (cp f))), (4, V.d (D.int IntKind.i64 (↑n : Int))), (5, V.ptr 12 0), (6, V.ptr 15 0)] [(0, some (Blk.mk [D.bool false, D.lst 0 []] true)), (12, some (Blk.mk [D.bool (decide ((↑L : Int) < (0 : Int))), du (dig (↑L : Int).natAbs)] true)), (15, some (Blk.mk [D.bool (decide ((0 : Int) < (0 : Int))), du (dig (Int.natAbs (0 : Int)))] true))] 17)) (fun K => by kernel_rfl) ?_
  refine ⟨hz0, by simp [iz], ?_⟩
  have hcms : ∀ k, cm f k < 2 ^ (1280 * 4 ^ i) := cm_lt hlc0 hlv.bits
  have hcmz : ∀ k, ((cm f k : Nat) : Int).natAbs < 2 ^ (1280 * 4 ^ i) := fun k => by rw [Int.natAbs_natCast]; exact hcms k
  have hlb := lvbits hi
  obtain ⟨KB, hKB⟩ : ∃ KB, KB = 1280 * 4 ^ i := ⟨_, rfl⟩
  rw [← hKB] at hcms hcmz hlb
  have hone : (1 : Int).natAbs < 2 ^ 1 := by decide
  have hc : cauchy f = cm f n + 1 := by unfold cauchy; rw [if_neg (by omega), show f.sz - 1 = n by omega]
  have hps : ∀ k, k < n → ((cp f).take n)[k]? = some (riz (f.c k)) := fun k hk => by
    rw [List.getElem?_take, if_pos hk, cp_get f (by omega)]
  refine awp_cut (ι := Unit) (fun _ => ⟨[(2, .ptr 0 0), (6, .ptr 2 0)], [(0, some ⟨[.bool false, .lst 0 []], true⟩), (2, some ⟨iz (cm f n : Nat), true⟩)], 3⟩) (fun _ => True) ?_ ?_
  · refine awp_sx prog_ok hP hnt [] [] [] [2, 5, 6, 25, 26, 27] (by kernel_rfl) (G := fun K => ((0 : Int) ≤ (↑n : Int) ∧ (↑n : Int) ≤ (↑(cp f).length : Int)) ∧ K (St.mk [(2, V.ptr 0 0), (5, V.ptr 12 0), (6, V.ptr 15 0), (25, V.d (D.lst (↑n : Int).toNat (List.take ((↑n : Int).toNat * 2) (rc (cp f))))), (26, V.d (D.int IntKind.i64 (↑(↑n : Int).toNat : Int))), (27, V.d (D.int IntKind.i64 (0 : Int)))] [(0, some (Blk.mk [D.bool false, D.lst 0 []] true)), (12, some (Blk.mk [D.bool (decide ((↑L : Int) < (0 : Int))), du (dig (↑L : Int).natAbs)] true)), (15, some (Blk.mk [D.bool (decide ((0 : Int) < (0 : Int))), du (dig (Int.natAbs (0 : Int)))] true))] 22)) (fun K => by kernel_rfl) ?_
    refine ⟨⟨by omega, by simp; omega⟩, ?_⟩
    refine awp_block ?_
    refine awp_loop (ι := Nat) (fun k => ⟨[(2, .ptr 0 0), (5, .ptr 1 0), (6, .ptr 2 0), (25, .d (.lst n (rc ((cp f).take n)))), (26, .d (.int .i64 n)), (27, .d (.int .i64 k))], [(0, some ⟨[.bool false, .lst 0 []], true⟩), (1, some ⟨iz (L : Nat), true⟩), (2, some ⟨iz (cm f k : Nat), true⟩)], 3⟩)
      (fun k => k ≤ n) (fun k => n - k) 0 [(0, 0), (1, 12), (2, 15)] (by omega) ?_ ?_
    · rw [Int.toNat_natCast, rc_take]
      (constructor <;> simp [hl, envOk, memOk, conv, St.get, St.blk, iz, cm])
    intro k hk
    refine awp_sx prog_ok hP hnt [] [] [] [2, 5, 6, 25, 26, 27, 28] (by kernel_rfl) (G := fun K => K (St.mk [(2, V.ptr 0 0), (5, V.ptr 1 0), (6, V.ptr 2 0), (25, V.d (D.lst n (rc (List.take n (cp f))))), (26, V.d (D.int IntKind.i64 (↑n : Int))), (27, V.d (D.int IntKind.i64 (↑k : Int))), (28, V.d (D.bool (decide ((↑k : Int) < (↑n : Int)))))] [(0, some (Blk.mk [D.bool false, D.lst 0 []] true)), (1, some (Blk.mk [D.bool (decide ((↑L : Int) < (0 : Int))), du (dig (↑L : Int).natAbs)] true)), (2, some (Blk.mk [D.bool (decide ((↑(cm f k) : Int) < (0 : Int))), du (dig (↑(cm f k) : Int).natAbs)] true))] 4)) (fun K => by kernel_rfl) ?_
    refine awp_seq_k fun K1 hK1 => ?_
    refine awp_cond rfl (fun e => awp_skip (hK1 _ ?_)) (fun e => awp_exit ⟨(), [(0, 0), (2, 2)], trivial, ?_⟩)
    · simp at e
      refine awp_seq_k fun K2 hK2 => ?_
      refine awp_block ?_
      have hk1 := hps k e
      refine awp_sx prog_ok hP hnt [] [] [some (iz (f.c k))] [2, 5, 6, 8, 25, 26, 27] (by kernel_rfl) (G := fun K => ((0 : Int) ≤ (↑k : Int) ∧ (↑k : Int) < (↑n : Int) ∧ ((↑k : Int).toNat + 1) * 2 ≤ (rc (List.take n (cp f))).length) ∧ ((List.drop ((↑k : Int).toNat * 2) (rc (List.take n (cp f))))[0]? = some (D.bool (decide (f.c k < (0 : Int)))) ∧ (List.drop ((↑k : Int).toNat * 2) (rc (List.take n (cp f))))[1]? = some (du (dig (f.c k).natAbs))) ∧ 0 + (iz (f.c k)).length ≤ (TI.mk (Kind.struct [(0, 1), (1, 1)]) 2 32 [D.bool false, D.lst 0 []]).zero.length ∧ K (St.mk [(2, V.ptr 0 0), (5, V.ptr 1 0), (6, V.ptr 2 0), (25, V.d (D.lst n (rc (List.take n (cp f))))), (26, V.d (D.int IntKind.i64 (↑n : Int))), (27, V.d (D.int IntKind.i64 (↑k : Int))), (8, V.ptr 6 0)] [(0, some (Blk.mk [D.bool false, D.lst 0 []] true)), (1, some (Blk.mk [D.bool (decide ((↑L : Int) < (0 : Int))), du (dig (↑L : Int).natAbs)] true)), (2, some (Blk.mk [D.bool (decide ((↑(cm f k) : Int) < (0 : Int))), du (dig (↑(cm f k) : Int).natAbs)] true)), (6, some (Blk.mk [D.bool (decide (f.c k < (0 : Int))), du (dig (f.c k).natAbs)] true))] 8)) (fun K => by kernel_rfl) ?_
      have hdz := hbit _ (hlv.ok k)
      have hrd : (rc (List.take n (cp f))).drop ((k : Int).toNat * 2) = .bool (riz (f.c k)).1 :: du (riz (f.c k)).2 :: rc (((cp f).take n).drop (k + 1)) := rc_drop0 hk1
      have hpl : ((cp f).take n).length = n := by rw [List.length_take, cp_len]; omega
      rw [hrd]
      refine ⟨⟨by omega, by omega, by rw [rc_len, hpl]; omega⟩, ⟨rfl, rfl⟩, by simp [iz], ?_⟩
      obtain ⟨z, hz⟩ : ∃ z, z = (f.c k).natAbs := ⟨_, rfl⟩
      have habz := iabs_fn (decide (f.c k < 0)) (dig (f.c k).natAbs) (by omega) (dig_lt _)
      rw [ival_iz, ← iz_ic] at habz
      rw [← hz] at habz hdz
      have hfl := floor_fn (dig z) (dig L) (by omega) (by omega) (dig_lt _) (dig_lt _) (by rw [val_dig]; omega)
      rw [val_dig, val_dig, ← iz_nat, ← iz_nat] at hfl
      have hzb : z / L < 2 ^ KB := Nat.lt_of_le_of_lt (Nat.div_le_self _ _) (by rw [hz, hKB]; exact hlv.bits k)
      obtain ⟨Q, hQ⟩ : ∃ Q, Q = z / L := ⟨_, rfl⟩
      obtain ⟨R, hR⟩ : ∃ R, R = z % L := ⟨_, rfl⟩
      have hceil : (if R = 0 then Q else Q + 1) = (z + L - 1) / L := by rw [hQ, hR]; exact ceil_eq hL0
      have hRL : R < L := by rw [hR]; exact Nat.mod_lt _ hL0
      rw [← hQ, ← hR] at hfl
      rw [← hQ] at hzb
      have hsg := sign_fn false (dig R) (by have := dig_len (n := R) (k := 40 * 4 ^ i) (by omega); omega) (dig_lt _)
      rw [show ival false (dig R) = (R : Int) from by unfold ival sgn; rw [val_dig]; rfl, ← iz_nat] at hsg
      have hcml := ceil_le (a := z) (b := L) hL0
      have hzl : z < 2 ^ KB := by rw [hz, hKB]; exact hlv.bits k
      refine awp_sx prog_ok hP hnt [] [.val (.agg (iz (z : Nat))), .val (.tup [.agg (iz (Q : Nat)), .agg (iz (R : Nat)), .d (.int .i64 0)])] [some (iz (f.c k)), some (iz (L : Nat))] [2, 5, 6, 9, 10, 25, 26, 27] (by kernel_rfl) (G := fun K => ([D.bool (decide (f.c k < (0 : Int))), du (dig (f.c k).natAbs)][0]? = some (D.bool (decide (f.c k < (0 : Int)))) ∧ [D.bool (decide (f.c k < (0 : Int))), du (dig (f.c k).natAbs)][1]? = some (du (dig (f.c k).natAbs))) ∧ Fn Try.prog 168 [V.agg [D.bool (decide (f.c k < (0 : Int))), du (dig (f.c k).natAbs)]] [] (V.agg [D.bool (decide ((↑z : Int) < (0 : Int))), du (dig (↑z : Int).natAbs)]) [] ∧ ([D.bool (decide ((↑L : Int) < (0 : Int))), du (dig (↑L : Int).natAbs)][0]? = some (D.bool (decide ((↑L : Int) < (0 : Int)))) ∧ [D.bool (decide ((↑L : Int) < (0 : Int))), du (dig (↑L : Int).natAbs)][1]? = some (du (dig (↑L : Int).natAbs))) ∧ Fn Try.prog 189 [V.agg [D.bool (decide ((↑z : Int) < (0 : Int))), du (dig (↑z : Int).natAbs)], V.agg [D.bool (decide ((↑L : Int) < (0 : Int))), du (dig (↑L : Int).natAbs)]] [] (V.tup [V.agg [D.bool (decide ((↑Q : Int) < (0 : Int))), du (dig (↑Q : Int).natAbs)], V.agg [D.bool (decide ((↑R : Int) < (0 : Int))), du (dig (↑R : Int).natAbs)], V.d (D.int IntKind.i64 (0 : Int))]) [] ∧ 0 + (iz (↑Q : Int)).length ≤ (TI.mk (Kind.struct [(0, 1), (1, 1)]) 2 32 [D.bool false, D.lst 0 []]).zero.length ∧ 0 + (iz (↑R : Int)).length ≤ (TI.mk (Kind.struct [(0, 1), (1, 1)]) 2 32 [D.bool false, D.lst 0 []]).zero.length ∧ K (St.mk [(2, V.ptr 0 0), (5, V.ptr 1 0), (6, V.ptr 2 0), (25, V.d (D.lst n (rc (List.take n (cp f))))), (26, V.d (D.int IntKind.i64 (↑n : Int))), (27, V.d (D.int IntKind.i64 (↑k : Int))), (9, V.ptr 16 0), (10, V.ptr 17 0)] [(0, some (Blk.mk [D.bool false, D.lst 0 []] true)), (1, some (Blk.mk [D.bool (decide ((↑L : Int) < (0 : Int))), du (dig (↑L : Int).natAbs)] true)), (2, some (Blk.mk [D.bool (decide ((↑(cm f k) : Int) < (0 : Int))), du (dig (↑(cm f k) : Int).natAbs)] true)), (6, some (Blk.mk [D.bool (decide (f.c k < (0 : Int))), du (dig (f.c k).natAbs)] true)), (16, some (Blk.mk [D.bool (decide ((↑Q : Int) < (0 : Int))), du (dig (↑Q : Int).natAbs)] true)), (17, some (Blk.mk [D.bool (decide ((↑R : Int) < (0 : Int))), du (dig (↑R : Int).natAbs)] true))] 21)) (fun K => by kernel_rfl) ?_
      refine ⟨⟨rfl, rfl⟩, habz, ⟨rfl, rfl⟩, hfl, by simp [iz], by simp [iz], ?_⟩
      obtain ⟨c, hc'⟩ : ∃ c, c = (z + L - 1) / L := ⟨_, rfl⟩
      rw [← hc'] at hceil hcml
      refine awp_cut (ι := Unit) (fun _ => ⟨[(2, .ptr 0 0), (5, .ptr 1 0), (6, .ptr 2 0), (9, .ptr 3 0), (25, .d (.lst n (rc ((cp f).take n)))), (26, .d (.int .i64 n)), (27, .d (.int .i64 k))], [(0, some ⟨[.bool false, .lst 0 []], true⟩), (1, some ⟨iz (L : Nat), true⟩), (2, some ⟨iz (cm f k : Nat), true⟩), (3, some ⟨iz (c : Nat), true⟩)], 4⟩) (fun _ => True) ?_ ?_
      · refine awp_sx prog_ok hP hnt [] [.val (.d (.int .i64 (R : Int).sign))] [some (iz (R : Nat))] [2, 5, 6, 9, 25, 26, 27, 41] (by kernel_rfl) (G := fun K => ([D.bool (decide ((↑R : Int) < (0 : Int))), du (dig (↑R : Int).natAbs)][0]? = some (D.bool (decide ((↑R : Int) < (0 : Int)))) ∧ [D.bool (decide ((↑R : Int) < (0 : Int))), du (dig (↑R : Int).natAbs)][1]? = some (du (dig (↑R : Int).natAbs))) ∧ Fn Try.prog 102 [V.agg [D.bool (decide ((↑R : Int) < (0 : Int))), du (dig (↑R : Int).natAbs)]] [] (V.d (D.int IntKind.i64 (↑R : Int).sign)) [] ∧ K (St.mk [(2, V.ptr 0 0), (5, V.ptr 1 0), (6, V.ptr 2 0), (25, V.d (D.lst n (rc (List.take n (cp f))))), (26, V.d (D.int IntKind.i64 (↑n : Int))), (27, V.d (D.int IntKind.i64 (↑k : Int))), (9, V.ptr 16 0), (41, V.d (D.bool ((↑R : Int).sign != (0 : Int))))] [(0, some (Blk.mk [D.bool false, D.lst 0 []] true)), (1, some (Blk.mk [D.bool (decide ((↑L : Int) < (0 : Int))), du (dig (↑L : Int).natAbs)] true)), (2, some (Blk.mk [D.bool (decide ((↑(cm f k) : Int) < (0 : Int))), du (dig (↑(cm f k) : Int).natAbs)] true)), (6, some (Blk.mk [D.bool (decide (f.c k < (0 : Int))), du (dig (f.c k).natAbs)] true)), (16, some (Blk.mk [D.bool (decide ((↑Q : Int) < (0 : Int))), du (dig (↑Q : Int).natAbs)] true)), (17, some (Blk.mk [D.bool (decide ((↑R : Int) < (0 : Int))), du (dig (↑R : Int).natAbs)] true))] 24)) (fun K => by kernel_rfl) ?_
        refine ⟨⟨rfl, rfl⟩, hsg, ?_⟩
        refine awp_cond rfl (fun e2 => ?_) (fun e2 => awp_skip ⟨(), [(0, 0), (1, 1), (2, 2), (3, 16)], trivial, ?_⟩)
        · simp at e2
          rw [if_neg (by omega)] at hceil
          rw [← hceil]
          have hadd := addI (x := (Q : Int)) (by rw [Int.natAbs_natCast]; exact hzb) hone (by omega) (by omega)
          refine awp_x prog_ok hP hnt [] [.val (.agg (iz 1)), .val (.agg (iz (Q + 1 : Nat)))] [some (iz (Q : Nat))] [2, 5, 6, 9, 25, 26, 27] (by kernel_rfl) (G := fun K => ([D.bool (decide ((↑Q : Int) < (0 : Int))), du (dig (↑Q : Int).natAbs)][0]? = some (D.bool (decide ((↑Q : Int) < (0 : Int)))) ∧ [D.bool (decide ((↑Q : Int) < (0 : Int))), du (dig (↑Q : Int).natAbs)][1]? = some (du (dig (↑Q : Int).natAbs))) ∧ Fn Try.prog 74 [V.d (D.int IntKind.i64 (1 : Int))] [] (V.agg [D.bool (decide ((1 : Int) < (0 : Int))), du (dig (Int.natAbs (1 : Int)))]) [] ∧ Fn Try.prog 96 [V.agg [D.bool (decide ((↑Q : Int) < (0 : Int))), du (dig (↑Q : Int).natAbs)], V.agg [D.bool (decide ((1 : Int) < (0 : Int))), du (dig (Int.natAbs (1 : Int)))]] [] (V.agg [D.bool (decide ((↑(Q + 1) : Int) < (0 : Int))), du (dig (↑(Q + 1) : Int).natAbs)]) [] ∧ 0 + (iz (↑(Q + 1) : Int)).length ≤ [D.bool (decide ((↑Q : Int) < (0 : Int))), du (dig (↑Q : Int).natAbs)].length ∧ K (St.mk [(2, V.ptr 0 0), (5, V.ptr 1 0), (6, V.ptr 2 0), (25, V.d (D.lst n (rc (List.take n (cp f))))), (26, V.d (D.int IntKind.i64 (↑n : Int))), (27, V.d (D.int IntKind.i64 (↑k : Int))), (9, V.ptr 16 0)] [(0, some (Blk.mk [D.bool false, D.lst 0 []] true)), (1, some (Blk.mk [D.bool (decide ((↑L : Int) < (0 : Int))), du (dig (↑L : Int).natAbs)] true)), (2, some (Blk.mk [D.bool (decide ((↑(cm f k) : Int) < (0 : Int))), du (dig (↑(cm f k) : Int).natAbs)] true)), (6, some (Blk.mk [D.bool (decide (f.c k < (0 : Int))), du (dig (f.c k).natAbs)] true)), (16, some (Blk.mk [D.bool (decide ((↑(Q + 1) : Int) < (0 : Int))), du (dig (↑(Q + 1) : Int).natAbs)] true)), (17, some (Blk.mk [D.bool (decide ((↑R : Int) < (0 : Int))), du (dig (↑R : Int).natAbs)] true))] 28)) (fun K => by kernel_rfl) ?_
          refine ⟨⟨rfl, rfl⟩, hz1, hadd, by simp [iz], (), [(0, 0), (1, 1), (2, 2), (3, 16)], trivial, ?_⟩
          (constructor <;> simp [hl, envOk, memOk, conv, St.get, St.blk, iz])
        · simp at e2
          rw [if_pos (by omega)] at hceil
          rw [← hceil]
          (constructor <;> simp [hl, envOk, memOk, conv, St.get, St.blk, iz])
      intro _ _
      have hdl : ∀ y : Nat, y < 2 ^ KB → (dig y).length ≤ 2 ^ 36 := fun y hy => by
        refine Nat.le_trans (dig_len (k := KB) (Nat.lt_of_lt_of_le hy ?_)) (by omega)
        rw [show (4294967296 : Nat) = 2 ^ 32 from rfl, ← Nat.pow_mul]
        exact pw (by omega)
      have hcmp := icmp_fn false false (dig c) (dig (cm f k)) (by have := hdl c (by omega); omega) (by have := hdl _ (hcms k); omega) (dig_lt _) (dig_lt _)
      rw [show ival false (dig c) = (c : Int) from by unfold ival sgn; rw [val_dig]; rfl, show ival false (dig (cm f k)) = (cm f k : Int) from by unfold ival sgn; rw [val_dig]; rfl, ← iz_nat, ← iz_nat] at hcmp
      have hmx : cm f (k + 1) = max (cm f k) c := by rw [cm, hc', hz, hL]
      refine awp_sx prog_ok hP hnt [] [.val (.d (.int .i64 (cmpZ c (cm f k))))] [some (iz (c : Nat)), some (iz (cm f k : Nat))] [2, 5, 6, 9, 25, 26, 27, 48] (by kernel_rfl) (G := fun K => ((iz (↑c : Int))[0]? = some (D.bool (decide ((↑c : Int) < (0 : Int)))) ∧ (iz (↑c : Int))[1]? = some (du (dig (↑c : Int).natAbs))) ∧ ((iz (↑(cm f k) : Int))[0]? = some (D.bool (decide ((↑(cm f k) : Int) < (0 : Int)))) ∧ (iz (↑(cm f k) : Int))[1]? = some (du (dig (↑(cm f k) : Int).natAbs))) ∧ Fn Try.prog 143 [V.agg [D.bool (decide ((↑c : Int) < (0 : Int))), du (dig (↑c : Int).natAbs)], V.agg [D.bool (decide ((↑(cm f k) : Int) < (0 : Int))), du (dig (↑(cm f k) : Int).natAbs)]] [] (V.d (D.int IntKind.i64 (cmpZ (↑c : Int) (↑(cm f k) : Int)))) [] ∧ K (St.mk [(2, V.ptr 0 0), (5, V.ptr 1 0), (6, V.ptr 2 0), (9, V.ptr 3 0), (25, V.d (D.lst n (rc (List.take n (cp f))))), (26, V.d (D.int IntKind.i64 (↑n : Int))), (27, V.d (D.int IntKind.i64 (↑k : Int))), (48, V.d (D.bool (decide (cmpZ (↑c : Int) (↑(cm f k) : Int) > (0 : Int)))))] [(0, some (Blk.mk [D.bool false, D.lst 0 []] true)), (1, some (Blk.mk [D.bool (decide ((↑L : Int) < (0 : Int))), du (dig (↑L : Int).natAbs)] true)), (2, some (Blk.mk [D.bool (decide ((↑(cm f k) : Int) < (0 : Int))), du (dig (↑(cm f k) : Int).natAbs)] true)), (3, some (Blk.mk [D.bool (decide ((↑c : Int) < (0 : Int))), du (dig (↑c : Int).natAbs)] true))] 8)) (fun K => by kernel_rfl) ?_
      refine ⟨⟨rfl, rfl⟩, ⟨rfl, rfl⟩, hcmp, ?_⟩
      refine awp_cond rfl (fun e2 => ?_) (fun e2 => awp_skip (hK2 _ ?_))
      · have hlt : cm f k < c := by
          rcases Nat.lt_or_ge (cm f k) c with h | h
          · exact h
          · exfalso
            have e3 := of_decide_eq_true e2
            unfold cmpZ at e3
            rw [if_neg (by omega)] at e3
            split at e3 <;> omega
        refine awp_x prog_ok hP hnt [] [] [some (iz (c : Nat))] [2, 5, 6, 25, 26, 27] (by kernel_rfl) (G := fun K => ([D.bool (decide ((↑c : Int) < (0 : Int))), du (dig (↑c : Int).natAbs)][0]? = some (D.bool (decide ((↑c : Int) < (0 : Int)))) ∧ [D.bool (decide ((↑c : Int) < (0 : Int))), du (dig (↑c : Int).natAbs)][1]? = some (du (dig (↑c : Int).natAbs))) ∧ 0 + (iz (↑c : Int)).length ≤ [D.bool (decide ((↑(cm f k) : Int) < (0 : Int))), du (dig (↑(cm f k) : Int).natAbs)].length ∧ K (St.mk [(2, V.ptr 0 0), (5, V.ptr 1 0), (6, V.ptr 2 0), (25, V.d (D.lst n (rc (List.take n (cp f))))), (26, V.d (D.int IntKind.i64 (↑n : Int))), (27, V.d (D.int IntKind.i64 (↑k : Int)))] [(0, some (Blk.mk [D.bool false, D.lst 0 []] true)), (1, some (Blk.mk [D.bool (decide ((↑L : Int) < (0 : Int))), du (dig (↑L : Int).natAbs)] true)), (2, some (Blk.mk [D.bool (decide ((↑c : Int) < (0 : Int))), du (dig (↑c : Int).natAbs)] true)), (3, some (Blk.mk [D.bool (decide ((↑c : Int) < (0 : Int))), du (dig (↑c : Int).natAbs)] true))] 10)) (fun K => by kernel_rfl) ?_
        refine ⟨⟨rfl, rfl⟩, by simp [iz], hK2 _ ?_⟩
        refine awp_x prog_ok hP hnt [(50, .int .i64 (k + 1 : Nat))] [] [] [2, 5, 6, 25, 26, 27] (by kernel_rfl) (G := fun K => IntKind.i64.wrap ((↑k : Int) + (1 : Int)) = (↑(k + 1) : Int) ∧ K (St.mk [(2, V.ptr 0 0), (5, V.ptr 1 0), (6, V.ptr 2 0), (25, V.d (D.lst n (rc (List.take n (cp f))))), (26, V.d (D.int IntKind.i64 (↑n : Int))), (27, V.d (D.int IntKind.i64 (↑(k + 1) : Int)))] [(0, some (Blk.mk [D.bool false, D.lst 0 []] true)), (1, some (Blk.mk [D.bool (decide ((↑L : Int) < (0 : Int))), du (dig (↑L : Int).natAbs)] true)), (2, some (Blk.mk [D.bool (decide ((↑c : Int) < (0 : Int))), du (dig (↑c : Int).natAbs)] true)), (3, some (Blk.mk [D.bool (decide ((↑c : Int) < (0 : Int))), du (dig (↑c : Int).natAbs)] true))] 12)) (fun K => by kernel_rfl) ?_
        refine ⟨by rw [w64] <;> omega, k + 1, [(0, 0), (1, 1), (2, 2)], ⟨by omega, by omega⟩, ?_⟩
        rw [hmx, Nat.max_eq_right (by omega)]
        (constructor <;> simp [hl, envOk, memOk, conv, St.get, St.blk, iz])
      · have hle : c ≤ cm f k := by
          rcases Nat.lt_or_ge (cm f k) c with h | h
          · exfalso
            have e3 := of_decide_eq_false e2
            rw [cmpZ_gt (by omega)] at e3
            omega
          · exact h
        refine awp_x prog_ok hP hnt [(50, .int .i64 (k + 1 : Nat))] [] [] [2, 5, 6, 25, 26, 27] (by kernel_rfl) (G := fun K => IntKind.i64.wrap ((↑k : Int) + (1 : Int)) = (↑(k + 1) : Int) ∧ K (St.mk [(2, V.ptr 0 0), (5, V.ptr 1 0), (6, V.ptr 2 0), (25, V.d (D.lst n (rc (List.take n (cp f))))), (26, V.d (D.int IntKind.i64 (↑n : Int))), (27, V.d (D.int IntKind.i64 (↑(k + 1) : Int)))] [(0, some (Blk.mk [D.bool false, D.lst 0 []] true)), (1, some (Blk.mk [D.bool (decide ((↑L : Int) < (0 : Int))), du (dig (↑L : Int).natAbs)] true)), (2, some (Blk.mk [D.bool (decide ((↑(cm f k) : Int) < (0 : Int))), du (dig (↑(cm f k) : Int).natAbs)] true)), (3, some (Blk.mk [D.bool (decide ((↑c : Int) < (0 : Int))), du (dig (↑c : Int).natAbs)] true))] 10)) (fun K => by kernel_rfl) ?_
        refine ⟨by rw [w64] <;> omega, k + 1, [(0, 0), (1, 1), (2, 2)], ⟨by omega, by omega⟩, ?_⟩
        rw [hmx, Nat.max_eq_left hle]
        (constructor <;> simp [hl, envOk, memOk, conv, St.get, St.blk, iz])
    · simp at e
      have : k = n := by omega
      subst this
      (constructor <;> simp [hl, envOk, memOk, conv, St.get, St.blk, iz])
  intro _ _
  have hadd := addI (hcmz n) hone (by omega) (by omega)
  rw [hc]
  refine awp_sx prog_ok hP hnt [] [.val (.agg (iz 1)), .val (.agg (iz (cm f n + 1 : Nat)))] [some (iz (cm f n : Nat))] [2] (by kernel_rfl) (G := fun K => ((iz (↑(cm f n) : Int))[0]? = some (D.bool (decide ((↑(cm f n) : Int) < (0 : Int)))) ∧ (iz (↑(cm f n) : Int))[1]? = some (du (dig (↑(cm f n) : Int).natAbs))) ∧ Fn Try.prog 74 [V.d (D.int IntKind.i64 (1 : Int))] [] (V.agg [D.bool (decide ((1 : Int) < (0 : Int))), du (dig (Int.natAbs (1 : Int)))]) [] ∧ Fn Try.prog 96 [V.agg [D.bool (decide ((↑(cm f n) : Int) < (0 : Int))), du (dig (↑(cm f n) : Int).natAbs)], V.agg [D.bool (decide ((1 : Int) < (0 : Int))), du (dig (Int.natAbs (1 : Int)))]] [] (V.agg [D.bool (decide ((↑(cm f n + 1) : Int) < (0 : Int))), du (dig (↑(cm f n + 1) : Int).natAbs)]) [] ∧ 0 + (iz (↑(cm f n + 1) : Int)).length ≤ [D.bool false, D.lst 0 []].length ∧ K (St.mk [(2, V.ptr 0 0)] [(0, some (Blk.mk [D.bool (decide ((↑(cm f n + 1) : Int) < (0 : Int))), du (dig (↑(cm f n + 1) : Int).natAbs)] true)), (2, some (Blk.mk [D.bool (decide ((↑(cm f n) : Int) < (0 : Int))), du (dig (↑(cm f n) : Int).natAbs)] true))] 7)) (fun K => by kernel_rfl) ?_
  exact ⟨⟨rfl, rfl⟩, hz1, hadd, by simp [iz], awp_ret ⟨.inl rfl, retC (l := true) rfl rfl rfl rfl⟩⟩
end Go.Abs

set_option linter.unusedVariables false
set_option linter.unusedSimpArgs false
namespace Go.Abs
open Go Go.Proofs Poly
set_option maxRecDepth 100000

theorem is14_fn (s : Bool) (l : List Nat) (n : Int) (h : l.length ≤ 2 ^ 39) (hd : Dg l) (h1 : -9223372036854775808 ≤ n) (h2 : n ≤ 9223372036854775807) :
    Fn Try.prog 84 [.agg (ic s l), .d (.int .i64 n)] [] (.d (.bool (decide (ival s l = n)))) [] := by
  refine fn0 (nt := 10) (res := [.tmp 4]) Try.func84 rfl (by decide) rfl rfl rfl rfl ?_
  intro Cx hP hnt hl
  have ho := iOf_fn n h1 h2
  have hn2 : (dig n.natAbs).length ≤ 2 := dig_len (by omega)
  have hc := icmp_fn s (decide (n < 0)) l (dig n.natAbs) (by omega) (by omega) hd (dig_lt _)
  rw [ival_iz, ← iz_ic] at hc
  refine awp_sx prog_ok hP hnt [] [] [] [1, 2] (by kernel_rfl) (G := fun K => K (St.mk [(1, V.d (D.int IntKind.i64 n)), (2, V.ptr 0 0)] [(0, some (Blk.mk [D.bool s, du l] true))] 2)) (fun K => by kernel_rfl) ?_
  refine awp_sx prog_ok hP hnt [] [.val (.agg (iz n)), .val (.d (.int .i64 (cmpZ (ival s l) n)))] [some (ic s l)] [4] (by kernel_rfl) (G := fun K => ([D.bool s, du l][0]? = some (D.bool s) ∧ [D.bool s, du l][1]? = some (du l)) ∧ Fn Try.prog 74 [V.d (D.int IntKind.i64 n)] [] (V.agg [D.bool (decide (n < (0 : Int))), du (dig n.natAbs)]) [] ∧ Fn Try.prog 143 [V.agg [D.bool s, du l], V.agg [D.bool (decide (n < (0 : Int))), du (dig n.natAbs)]] [] (V.d (D.int IntKind.i64 (cmpZ (ival s l) n))) [] ∧ K (St.mk [(4, V.d (D.bool (cmpZ (ival s l) n == (0 : Int))))] [(0, some (Blk.mk [D.bool s, du l] true))] 8)) (fun K => by kernel_rfl) ?_
  refine ⟨⟨rfl, rfl⟩, ho, hc, awp_ret ⟨.inl rfl, retD ?_⟩⟩
  have : (cmpZ (ival s l) n == 0) = decide (ival s l = n) := by
    rw [Bool.eq_iff_iff, beq_iff_eq, decide_eq_true_iff, cmpZ_zero]
  rw [← this]; rfl

theorem cauchy_2 : cauchy (polL [2, -5, 2]) = 4 := by
  have hsz : (polL [2, -5, 2]).sz = 3 := by
    apply Nat.le_antisymm (polL_sz _)
    rcases Nat.lt_or_ge (polL [2, -5, 2]).sz 3 with h | h
    · have h2 : (polL [2, -5, 2]).c 2 = 0 := above (by omega)
      exact absurd h2 (by decide)
    · exact h
  have hlc : (polL [2, -5, 2]).lc = 2 := by unfold Poly.lc; rw [hsz]; rfl
  unfold cauchy
  rw [hsz, if_neg (by omega)]
  simp only [cm, hlc]
  decide

theorem awake14_fn : Fn Try.prog 75 [] [] (.d (.bool true)) [] := by
  refine fn0 (nt := 13) (res := [.tmp 0]) Try.func75 rfl (by decide) rfl rfl rfl rfl ?_
  intro Cx hP hnt hl
  have ho := ofP [2, -5, 2] (by decide) (by intro z hz; simp at hz; omega)
  have hb : W 0 (cp (polL [2, -5, 2])) := by
    have hB : Bz 3 [2, -5, 2] := by intro z hz; simp at hz; rcases hz with rfl | rfl | rfl <;> decide
    refine Lv.w ⟨Nat.le_trans (polL_sz _) (by decide), fun k => Nat.lt_of_lt_of_le (hB.getD k) ?_⟩
    exact Nat.le_trans (show 2 ^ 3 ≤ 4294967296 ^ 1 by decide) (Nat.pow_le_pow_right (by omega) (by omega))
  have hc := cauchyP (by omega) hb
  rw [pol_cp, cauchy_2] at hc
  have h3 := iOf_fn 3 (by decide) (by decide)
  have hcmp := icmp_fn (decide ((4 : Int) < 0)) (decide ((3 : Int) < 0)) (dig (4 : Int).natAbs) (dig (3 : Int).natAbs) (by have := dig_len (n := 4) (k := 1) (by decide); show (dig 4).length ≤ _; omega) (by have := dig_len (n := 3) (k := 1) (by decide); show (dig 3).length ≤ _; omega) (dig_lt _) (dig_lt _)
  rw [ival_iz, ival_iz, ← iz_ic, ← iz_ic] at hcmp
  have his := is14_fn (decide ((4 : Int) < 0)) (dig (4 : Int).natAbs) 4 (by have := dig_len (n := 4) (k := 1) (by decide); show (dig 4).length ≤ _; omega) (dig_lt _) (by decide) (by decide)
  rw [ival_iz, ← iz_ic] at his
  refine awp_sx prog_ok hP hnt [] [] [] [] (by kernel_rfl) (G := fun K => K (St.mk [] [] 1)) (fun K => by kernel_rfl) ?_
  refine awp_sx prog_ok hP hnt [] [.val (.d (rp (cp (polL [2, -5, 2])))), .val (.agg (iz 4))] [] [1] (by kernel_rfl) (G := fun K => Fn Try.prog 51 [V.d (D.lst 3 [D.int IntKind.i64 (2 : Int), D.int IntKind.i64 (-5 : Int), D.int IntKind.i64 (2 : Int)])] [] (V.d (rp (cp (polL [(2 : Int), (-5 : Int), (2 : Int)])))) [] ∧ Fn Try.prog 104 [V.d (rp (cp (polL [(2 : Int), (-5 : Int), (2 : Int)])))] [] (V.agg [D.bool (decide ((4 : Int) < (0 : Int))), du (dig (Int.natAbs (4 : Int)))]) [] ∧ 2 ≤ (TI.mk (Kind.struct [(0, 1), (1, 1)]) 2 32 [D.bool false, D.lst 0 []]).zero.length ∧ K (St.mk [(1, V.ptr 4 0)] [(4, some (Blk.mk [D.bool (decide ((4 : Int) < (0 : Int))), du (dig (Int.natAbs (4 : Int)))] true))] 6)) (fun K => by kernel_rfl) ?_
  refine ⟨ho, hc, by simp, ?_⟩
  refine awp_sx prog_ok hP hnt [(8, .bool true)] [.val (.agg (iz 3)), .val (.d (.int .i64 (cmpZ 4 3))), .val (.d (.bool (decide ((4 : Int) = 4))))] [some (iz 4), some (iz 4)] [0] (by kernel_rfl) (G := fun K => ([D.bool (decide ((4 : Int) < (0 : Int))), du (dig (Int.natAbs (4 : Int)))][0]? = some (D.bool (decide ((4 : Int) < (0 : Int)))) ∧ [D.bool (decide ((4 : Int) < (0 : Int))), du (dig (Int.natAbs (4 : Int)))][1]? = some (du (dig (Int.natAbs (4 : Int))))) ∧ Fn Try.prog 74 [V.d (D.int IntKind.i64 (3 : Int))] [] (V.agg [D.bool (decide ((3 : Int) < (0 : Int))), du (dig (Int.natAbs (3 : Int)))]) [] ∧ Fn Try.prog 143 [V.agg [D.bool (decide ((4 : Int) < (0 : Int))), du (dig (Int.natAbs (4 : Int)))], V.agg [D.bool (decide ((3 : Int) < (0 : Int))), du (dig (Int.natAbs (3 : Int)))]] [] (V.d (D.int IntKind.i64 (cmpZ (4 : Int) (3 : Int)))) [] ∧ decide (cmpZ (4 : Int) (3 : Int) > (0 : Int)) = true ∧ ([D.bool (decide ((4 : Int) < (0 : Int))), du (dig (Int.natAbs (4 : Int)))][0]? = some (D.bool (decide ((4 : Int) < (0 : Int)))) ∧ [D.bool (decide ((4 : Int) < (0 : Int))), du (dig (Int.natAbs (4 : Int)))][1]? = some (du (dig (Int.natAbs (4 : Int))))) ∧ Fn Try.prog 84 [V.agg [D.bool (decide ((4 : Int) < (0 : Int))), du (dig (Int.natAbs (4 : Int)))], V.d (D.int IntKind.i64 (4 : Int))] [] (V.d (D.bool (decide ((4 : Int) = (4 : Int))))) [] ∧ K (St.mk [(0, V.d (D.bool (decide ((4 : Int) = (4 : Int)))))] [(4, some (Blk.mk [D.bool (decide ((4 : Int) < (0 : Int))), du (dig (Int.natAbs (4 : Int)))] true))] 15)) (fun K => by kernel_rfl) ?_
  exact ⟨⟨rfl, rfl⟩, h3, hcmp, by rfl, ⟨rfl, rfl⟩, his, awp_ret ⟨.inl rfl, retD rfl⟩⟩

/-- the first numbers, limited -/
def clip (m x : Int) : Int := min (max x (-m)) m
def wideL (n : Nat) (m : Int) (l : List Int) : List Int := (l.take n).map (clip m)

theorem i16s_len (l : List Int) : (i16s l).length = l.length := by
  have := fm_len (g := fun n : Int => [D.int .i16 n]) (w := 1) (fun _ => rfl) l
  rw [Nat.mul_one] at this; exact this
theorem i16s_get (l : List Int) (i : Nat) : (i16s l)[i]? = (l[i]?).map fun d => D.int .i16 d := by
  induction l generalizing i with
  | nil => simp [i16s, fm]
  | cons x l ih =>
    cases i with
    | zero => rfl
    | succ i => show (i16s l)[i]? = _; rw [ih]; rfl

theorem wide_fn (l : List Int) (n : Nat) (m : Int) (hl0 : ∀ z ∈ l, -32768 ≤ z ∧ z ≤ 32767) (hn : n ≤ 100) (hm : 0 ≤ m ∧ m ≤ 100000) :
    Fn Try.prog 82 [.d (.lst l.length (i16s l)), .d (.int .i64 n), .d (.int .i64 m)] [] (.d (.lst (wideL n m l).length (i64s (wideL n m l)))) [] := by
  refine fn0 (nt := 34) (res := [.tmp 6]) Try.func82 rfl (by decide) rfl rfl rfl rfl ?_
  intro Cx hP hnt hl
  refine awp_sx prog_ok hP hnt [] [] [] [0, 1, 2] (by kernel_rfl) (G := fun K => K (St.mk [(0, V.d (D.lst l.length (i16s l))), (1, V.d (D.int IntKind.i64 (↑n : Int))), (2, V.d (D.int IntKind.i64 m))] [] 1)) (fun K => by kernel_rfl) ?_
  refine awp_sx prog_ok hP hnt [] [] [] [0, 1, 2, 7] (by kernel_rfl) (G := fun K => K (St.mk [(0, V.d (D.lst l.length (i16s l))), (1, V.d (D.int IntKind.i64 (↑n : Int))), (2, V.d (D.int IntKind.i64 m)), (7, V.nil)] [] 2)) (fun K => by kernel_rfl) ?_
  refine awp_cut (ι := Unit) (fun _ => ⟨[(7, .own 0 0 (wideL n m l).length 1)], [(0, some ⟨i64s (wideL n m l), true⟩)], 1⟩) (fun _ => True) ?_ ?_
  · refine awp_sx prog_ok hP hnt [] [] [] [0, 1, 2, 7, 8] (by kernel_rfl) (G := fun K => K (St.mk [(0, V.d (D.lst l.length (i16s l))), (1, V.d (D.int IntKind.i64 (↑n : Int))), (2, V.d (D.int IntKind.i64 m)), (7, V.nil), (8, V.d (D.int IntKind.i64 (0 : Int)))] [] 3)) (fun K => by kernel_rfl) ?_
    refine awp_block ?_
    refine awp_loop (ι := Nat) (fun k => ⟨[(0, .d (.lst l.length (i16s l))), (1, .d (.int .i64 n)), (2, .d (.int .i64 m)), (7, .own 0 0 k 1), (8, .d (.int .i64 k))], [(0, some ⟨i64s (wideL k m l), true⟩)], 1⟩)
      (fun k => k ≤ l.length ∧ k ≤ n) (fun k => l.length - k) 0 [] ⟨by omega, by omega⟩ ?_ ?_
    · (constructor <;> simp [hl, envOk, memOk, conv, St.get, St.blk, wideL, i64s])
    intro k ⟨hk1, hk2⟩
    refine awp_seq_k fun K1 hK1 => ?_
    have hfin : ¬ (k < l.length ∧ k < n) → wideL k m l = wideL n m l := fun h => by
      unfold wideL
      congr 1
      rcases Nat.lt_or_ge k l.length with h1 | h1
      · rw [show k = n by omega]
      · rw [List.take_of_length_le h1, List.take_of_length_le (by omega)]
    have hwl : (wideL k m l).length = k := by simp [wideL]; omega
    by_cases h1 : k < l.length
    · by_cases h2 : k < n
      · obtain ⟨z, hz⟩ := get_ex (l := l) (i := k) h1
        have hz16 := hl0 z (List.mem_of_getElem? hz)
        have hsucc : wideL (k + 1) m l = wideL k m l ++ [clip m z] := by
          unfold wideL
          rw [List.take_add_one, hz, List.map_append]; rfl
        refine awp_sx prog_ok hP hnt [(12, .bool true), (16, .bool true), (17, .bool true)] [] [] [0, 1, 2, 7, 8, 17] (by kernel_rfl) (G := fun K => decide ((↑k : Int) < (↑l.length : Int)) = true ∧ decide ((↑k : Int) < (↑n : Int)) = true ∧ true = true ∧ K (St.mk [(0, V.d (D.lst l.length (i16s l))), (1, V.d (D.int IntKind.i64 (↑n : Int))), (2, V.d (D.int IntKind.i64 m)), (7, V.own 0 0 k 1), (8, V.d (D.int IntKind.i64 (↑k : Int))), (17, V.d (D.bool true))] [(0, some (Blk.mk (i64s (wideL k m l)) true))] 10)) (fun K => by kernel_rfl) ?_
        refine ⟨by simp; omega, by simp; omega, rfl, awp_cond (b := true) rfl (fun _ => awp_skip (hK1 _ ?_)) nofun⟩
        refine awp_seq_k fun K2 hK2 => ?_
        refine awp_block ?_
        refine awp_x prog_ok hP hnt [(25, .int .i64 z), (30, .int .i64 (clip m z))] [] [some [.int .i16 z]] [0, 1, 2, 7, 8] (by kernel_rfl) (G := fun K => ((0 : Int) ≤ (↑k : Int) ∧ (↑k : Int) < (↑l.length : Int) ∧ ((↑k : Int).toNat + 1) * 1 ≤ (i16s l).length) ∧ (List.drop ((↑k : Int).toNat * 1) (i16s l))[0]? = some (D.int IntKind.i16 z) ∧ IntKind.i64.wrap z = z ∧ (if m < if IntKind.i64.wrap ((0 : Int) - m) > z then IntKind.i64.wrap ((0 : Int) - m) else z then m else if IntKind.i64.wrap ((0 : Int) - m) > z then IntKind.i64.wrap ((0 : Int) - m) else z) = clip m z ∧ 1 = 1 ∧ ((i64s (wideL k m l)).length = k * 1 ∧ (k + 1) * 8 ≤ 2 ^ 47) ∧ K (St.mk [(0, V.d (D.lst l.length (i16s l))), (1, V.d (D.int IntKind.i64 (↑n : Int))), (2, V.d (D.int IntKind.i64 m)), (7, V.own 22 0 (k + 1) 1), (8, V.d (D.int IntKind.i64 (↑k : Int)))] [(0, none), (22, some (Blk.mk (i64s (wideL k m l) ++ setCells (zeros 1 (TI.mk (Kind.int IntKind.i64) 1 8 [D.int IntKind.i64 (0 : Int)]).zero) 0 [D.int IntKind.i64 (clip m z)]) true))] 24)) (fun K => by kernel_rfl) ?_
        have hw1 : IntKind.i64.wrap (0 - m) = -m := by rw [w64] <;> omega
        have hmm : (if m < if IntKind.i64.wrap (0 - m) > z then IntKind.i64.wrap (0 - m) else z then m else if IntKind.i64.wrap (0 - m) > z then IntKind.i64.wrap (0 - m) else z) = clip m z := by
          rw [hw1]; unfold clip
          by_cases h3 : -m > z
          · rw [if_pos h3]; split <;> omega
          · rw [if_neg h3]; split <;> omega
        refine ⟨⟨by omega, by omega, by rw [i16s_len]; omega⟩, by rw [Int.toNat_natCast, Nat.mul_one, List.getElem?_drop, Nat.add_zero, i16s_get, hz]; rfl, by rw [w64] <;> omega, hmm, rfl, ⟨by rw [i64s_len, hwl]; omega, by omega⟩, hK2 _ ?_⟩
        refine awp_x prog_ok hP hnt [(19, .int .i64 (k + 1 : Nat))] [] [] [0, 1, 2, 7, 8] (by kernel_rfl) (G := fun K => IntKind.i64.wrap ((↑k : Int) + (1 : Int)) = (↑(k + 1) : Int) ∧ K (St.mk [(0, V.d (D.lst l.length (i16s l))), (1, V.d (D.int IntKind.i64 (↑n : Int))), (2, V.d (D.int IntKind.i64 m)), (7, V.own 22 0 (k + 1) 1), (8, V.d (D.int IntKind.i64 (↑(k + 1) : Int)))] [(0, none), (22, some (Blk.mk (i64s (wideL k m l) ++ setCells (zeros 1 (TI.mk (Kind.int IntKind.i64) 1 8 [D.int IntKind.i64 (0 : Int)]).zero) 0 [D.int IntKind.i64 (clip m z)]) true))] 27)) (fun K => by kernel_rfl) ?_
        refine ⟨by rw [w64] <;> omega, k + 1, [(0, 22)], ⟨⟨by omega, by omega⟩, by omega⟩, ?_⟩
        rw [hsucc]
        (constructor <;> simp [hl, envOk, memOk, conv, St.get, St.blk, i64s, zeros, setCells])
      · refine awp_sx prog_ok hP hnt [(12, .bool true), (16, .bool false), (17, .bool false)] [] [] [0, 1, 2, 7, 8, 17] (by kernel_rfl) (G := fun K => decide ((↑k : Int) < (↑l.length : Int)) = true ∧ decide ((↑k : Int) < (↑n : Int)) = false ∧ false = false ∧ K (St.mk [(0, V.d (D.lst l.length (i16s l))), (1, V.d (D.int IntKind.i64 (↑n : Int))), (2, V.d (D.int IntKind.i64 m)), (7, V.own 0 0 k 1), (8, V.d (D.int IntKind.i64 (↑k : Int))), (17, V.d (D.bool false))] [(0, some (Blk.mk (i64s (wideL k m l)) true))] 10)) (fun K => by kernel_rfl) ?_
        refine ⟨by simp; omega, by simp; omega, rfl, awp_cond (b := false) rfl nofun fun _ => awp_exit ⟨(), [(0, 0)], trivial, ?_⟩⟩
        rw [← hfin (by omega), hwl]
        (constructor <;> simp [hl, envOk, memOk, conv, St.get, St.blk])
    · refine awp_sx prog_ok hP hnt [(12, .bool false), (17, .bool false)] [] [] [0, 1, 2, 7, 8, 17] (by kernel_rfl) (G := fun K => decide ((↑k : Int) < (↑l.length : Int)) = false ∧ false = false ∧ K (St.mk [(0, V.d (D.lst l.length (i16s l))), (1, V.d (D.int IntKind.i64 (↑n : Int))), (2, V.d (D.int IntKind.i64 m)), (7, V.own 0 0 k 1), (8, V.d (D.int IntKind.i64 (↑k : Int))), (17, V.d (D.bool false))] [(0, some (Blk.mk (i64s (wideL k m l)) true))] 10)) (fun K => by kernel_rfl) ?_
      refine ⟨by simp; omega, rfl, awp_cond (b := false) rfl nofun fun _ => awp_exit ⟨(), [(0, 0)], trivial, ?_⟩⟩
      rw [← hfin (by omega), hwl]
      (constructor <;> simp [hl, envOk, memOk, conv, St.get, St.blk])
  intro _ _
  refine awp_sx prog_ok hP hnt [] [] [] [6] (by kernel_rfl) (G := fun K => K (St.mk [(6, V.own 0 0 (wideL n m l).length 1)] [(0, some (Blk.mk (i64s (wideL n m l)) true))] 3)) (fun K => by kernel_rfl) ?_
  refine awp_ret ⟨.inl rfl, retOwn rfl rfl ?_⟩
  rw [List.drop_zero, List.take_of_length_le (by simp)]

/-- a list of numbers as a polynomial -/
theorem poly14_fn (l : List Int) (hn : l.length ≤ 2 ^ 40) (hl64 : In64 l) : Fn Try.prog 79 [.d (.lst l.length (i64s l))] [] (.d (rp (cp (polL l)))) [] := by
  refine fn0 (nt := 20) (res := [.tmp 2]) Try.func79 rfl (by decide) rfl rfl rfl rfl ?_
  intro Cx hP hnt hl
  have ho := ofP l hn hl64
  refine awp_sx prog_ok hP hnt [] [] [] [0] (by kernel_rfl) (G := fun K => K (St.mk [(0, V.d (D.lst l.length (i64s l)))] [] 1)) (fun K => by kernel_rfl) ?_
  refine awp_sx prog_ok hP hnt [] [] [] [0, 3] (by kernel_rfl) (G := fun K => K (St.mk [(0, V.d (D.lst l.length (i64s l))), (3, V.nil)] [] 2)) (fun K => by kernel_rfl) ?_
  refine awp_cut (ι := Unit) (fun _ => ⟨[(3, .own 0 0 l.length 1)], [(0, some ⟨i64s l, true⟩)], 1⟩) (fun _ => True) ?_ ?_
  · refine awp_sx prog_ok hP hnt [] [] [] [0, 3, 4] (by kernel_rfl) (G := fun K => K (St.mk [(0, V.d (D.lst l.length (i64s l))), (3, V.nil), (4, V.d (D.int IntKind.i64 (0 : Int)))] [] 3)) (fun K => by kernel_rfl) ?_
    refine awp_block ?_
    refine awp_loop (ι := Nat) (fun k => ⟨[(0, .d (.lst l.length (i64s l))), (3, .own 0 0 k 1), (4, .d (.int .i64 k))], [(0, some ⟨i64s (l.take k), true⟩)], 1⟩)
      (fun k => k ≤ l.length) (fun k => l.length - k) 0 [] (by omega) ?_ ?_
    · (constructor <;> simp [hl, envOk, memOk, conv, St.get, St.blk, i64s])
    intro k hk
    refine awp_seq_k fun K1 hK1 => ?_
    refine awp_sx prog_ok hP hnt [] [] [] [0, 3, 4, 8] (by kernel_rfl) (G := fun K => K (St.mk [(0, V.d (D.lst l.length (i64s l))), (3, V.own 0 0 k 1), (4, V.d (D.int IntKind.i64 (↑k : Int))), (8, V.d (D.bool (decide ((↑k : Int) < (↑l.length : Int)))))] [(0, some (Blk.mk (i64s (List.take k l)) true))] 5)) (fun K => by kernel_rfl) ?_
    refine awp_cond rfl (fun e => awp_skip (hK1 _ ?_)) (fun e => awp_exit ⟨(), [(0, 0)], trivial, ?_⟩)
    · simp at e
      obtain ⟨z, hz⟩ := get_ex (l := l) (i := k) e
      have hlk : (l.take k).length = k := by simp; omega
      have hsucc : l.take (k + 1) = l.take k ++ [z] := by rw [List.take_add_one, hz]; rfl
      refine awp_seq_k fun K2 hK2 => ?_
      refine awp_block ?_
      refine awp_x prog_ok hP hnt [] [] [some [.int .i64 z]] [0, 3, 4] (by kernel_rfl) (G := fun K => ((0 : Int) ≤ (↑k : Int) ∧ (↑k : Int) < (↑l.length : Int) ∧ ((↑k : Int).toNat + 1) * 1 ≤ (i64s l).length) ∧ (List.drop ((↑k : Int).toNat * 1) (i64s l))[0]? = some (D.int IntKind.i64 z) ∧ 1 = 1 ∧ ((i64s (List.take k l)).length = k * 1 ∧ (k + 1) * 8 ≤ 2 ^ 47) ∧ K (St.mk [(0, V.d (D.lst l.length (i64s l))), (3, V.own 11 0 (k + 1) 1), (4, V.d (D.int IntKind.i64 (↑k : Int)))] [(0, none), (11, some (Blk.mk (i64s (List.take k l) ++ setCells (zeros 1 (TI.mk (Kind.int IntKind.i64) 1 8 [D.int IntKind.i64 (0 : Int)]).zero) 0 [D.int IntKind.i64 z]) true))] 13)) (fun K => by kernel_rfl) ?_
      refine ⟨⟨by omega, by omega, by simp; omega⟩, by simp [hz], rfl, ⟨by rw [i64s_len, hlk]; omega, by omega⟩, hK2 _ ?_⟩
      refine awp_x prog_ok hP hnt [(10, .int .i64 (k + 1 : Nat))] [] [] [0, 3, 4] (by kernel_rfl) (G := fun K => IntKind.i64.wrap ((↑k : Int) + (1 : Int)) = (↑(k + 1) : Int) ∧ K (St.mk [(0, V.d (D.lst l.length (i64s l))), (3, V.own 11 0 (k + 1) 1), (4, V.d (D.int IntKind.i64 (↑(k + 1) : Int)))] [(0, none), (11, some (Blk.mk (i64s (List.take k l) ++ setCells (zeros 1 (TI.mk (Kind.int IntKind.i64) 1 8 [D.int IntKind.i64 (0 : Int)]).zero) 0 [D.int IntKind.i64 z]) true))] 16)) (fun K => by kernel_rfl) ?_
      refine ⟨by rw [w64] <;> omega, k + 1, [(0, 11)], ⟨by omega, by omega⟩, ?_⟩
      rw [hsucc]
      (constructor <;> simp [hl, envOk, memOk, conv, St.get, St.blk, i64s, zeros, setCells])
    · simp at e
      have : k = l.length := by omega
      subst this
      rw [List.take_length]
      (constructor <;> simp [hl, envOk, memOk, conv, St.get, St.blk])
  intro _ _
  refine awp_sx prog_ok hP hnt [] [.val (.d (rp (cp (polL l))))] [] [2] (by kernel_rfl) (G := fun K => Fn Try.prog 51 [V.d (D.lst l.length (List.take (l.length * 1) (List.drop 0 (i64s l))))] [] (V.d (rp (cp (polL l)))) [] ∧ K (St.mk [(2, V.d (rp (cp (polL l))))] [(0, some (Blk.mk (i64s l) false))] 4)) (fun K => by kernel_rfl) ?_
  rw [List.drop_zero, List.take_of_length_le (by simp)]
  exact ⟨ho, awp_ret ⟨.inl rfl, retD rfl⟩⟩
end Go.Abs

set_option linter.unusedVariables false
set_option linter.unusedSimpArgs false
namespace Go.Abs
open Go Go.Proofs Poly
set_option maxRecDepth 100000

/-- sign changes among the first values, and the last value other than 0 -/
def vr (F : Nat → Int) : Nat → Nat × Int
  | 0 => (0, 0)
  | k + 1 => if F k = 0 then vr F k else (if (vr F k).2 ≠ 0 ∧ (vr F k).2.sign ≠ (F k).sign then (vr F k).1 + 1 else (vr F k).1, F k)
theorem vr_le (F : Nat → Int) : ∀ k, (vr F k).1 ≤ k
  | 0 => Nat.le_refl _
  | k + 1 => by
    have := vr_le F k
    unfold vr
    split
    · omega
    · simp only; split <;> omega
theorem vr_ext {F G : Nat → Int} : ∀ {k : Nat}, (∀ i, i < k → F i = G i) → vr F k = vr G k
  | 0, _ => rfl
  | k + 1, h => by
    have ih := vr_ext (F := F) (G := G) (k := k) fun i hi => h i (by omega)
    unfold vr
    rw [ih, h k (by omega)]
theorem vr_more {F : Nat → Int} {n : Nat} : ∀ {m : Nat}, n ≤ m → (∀ k, n ≤ k → F k = 0) → vr F m = vr F n
  | 0, h, _ => by rw [show n = 0 by omega]
  | m + 1, h, hz => by
    rcases Nat.lt_or_ge m n with h1 | h1
    · rw [show n = m + 1 by omega]
    · rw [← vr_more h1 hz, vr, if_pos (hz m h1)]
noncomputable def vars (f : Poly) : Nat := (vr f.c f.sz).1

theorem varsP {i : Nat} {ps : List RI} (hi : i ≤ 12) (hp : W i ps) : Fn Try.prog 78 [.d (rp ps)] [] (.d (.int .i64 (vars (pol ps) : Nat))) [] := by
  refine fn0 (nt := 34) (res := [.tmp 2]) Try.func78 rfl (by decide) rfl rfl rfl rfl ?_
  intro Cx hP hnt hl
  obtain ⟨f, hf⟩ : ∃ f, f = pol ps := ⟨_, rfl⟩
  have hv : vars f = (vr f.c ps.length).1 := by
    unfold vars
    rw [vr_more (n := f.sz) (m := ps.length) (hf ▸ pol_sz ps) fun k hk => above hk]
  have h4 := lim4 hi
  have h2 := lim2 hi
  have hpl : ps.length ≤ 2 ^ 36 := by have := hp.len; omega
  rw [← hf, hv]
  refine awp_sx prog_ok hP hnt [] [] [] [0] (by kernel_rfl) (G := fun K => K (St.mk [(0, V.d (rp ps))] [] 1)) (fun K => by kernel_rfl) ?_
  refine awp_sx prog_ok hP hnt [] [] [] [0, 3, 4] (by kernel_rfl) (G := fun K => K (St.mk [(0, V.d (rp ps)), (3, V.d (D.int IntKind.i64 (0 : Int))), (4, V.d (D.int IntKind.i64 (0 : Int)))] [] 3)) (fun K => by kernel_rfl) ?_
  refine awp_cut (ι := Unit) (fun _ => ⟨[(3, .d (.int .i64 (vr f.c ps.length).1))], [], 0⟩) (fun _ => True) ?_ ?_
  · refine awp_sx prog_ok hP hnt [] [] [] [3, 4, 8, 9, 10] (by kernel_rfl) (G := fun K => K (St.mk [(3, V.d (D.int IntKind.i64 (0 : Int))), (4, V.d (D.int IntKind.i64 (0 : Int))), (8, V.d (rp ps)), (9, V.d (D.int IntKind.i64 (↑ps.length : Int))), (10, V.d (D.int IntKind.i64 (0 : Int)))] [] 6)) (fun K => by kernel_rfl) ?_
    refine awp_block ?_
    refine awp_loop (ι := Nat) (fun k => ⟨[(3, .d (.int .i64 (vr f.c k).1)), (4, .d (.int .i64 (vr f.c k).2.sign)), (8, .d (rp ps)), (9, .d (.int .i64 ps.length)), (10, .d (.int .i64 k))], [], 0⟩)
      (fun k => k ≤ ps.length) (fun k => ps.length - k) 0 [] (by omega) ?_ ?_
    · (constructor <;> simp [hl, envOk, memOk, conv, St.get, St.blk, vr])
    intro k hk
    refine awp_sx prog_ok hP hnt [] [] [] [3, 4, 8, 9, 10, 11] (by kernel_rfl) (G := fun K => K (St.mk [(3, V.d (D.int IntKind.i64 (↑(vr f.c k).fst : Int))), (4, V.d (D.int IntKind.i64 (vr f.c k).snd.sign)), (8, V.d (rp ps)), (9, V.d (D.int IntKind.i64 (↑ps.length : Int))), (10, V.d (D.int IntKind.i64 (↑k : Int))), (11, V.d (D.bool (decide ((↑k : Int) < (↑ps.length : Int)))))] [] 1)) (fun K => by kernel_rfl) ?_
    refine awp_seq_k fun K1 hK1 => ?_
    refine awp_cond rfl (fun e => awp_skip (hK1 _ ?_)) (fun e => awp_exit ⟨(), [], trivial, ?_⟩)
    · simp at e
      obtain ⟨p, hp1⟩ := get_ex (l := ps) (i := k) e
      have hpo := hp.ok p (List.mem_of_getElem? hp1)
      have hfx : ival p.1 p.2 = f.c k := by rw [hf, pol_c, co_some hp1]; rfl
      have hs := sign_fn p.1 p.2 (by have := hpo.2; omega) hpo.1
      rw [hfx] at hs
      have hvl := vr_le f.c k
      refine awp_seq_k fun K2 hK2 => ?_
      refine awp_block ?_
      refine awp_sx prog_ok hP hnt [] [] [some [.bool p.1, du p.2]] [3, 4, 6, 8, 9, 10] (by kernel_rfl) (G := fun K => ((0 : Int) ≤ (↑k : Int) ∧ (↑k : Int) < (↑ps.length : Int) ∧ ((↑k : Int).toNat + 1) * 2 ≤ (rc ps).length) ∧ ((List.drop ((↑k : Int).toNat * 2) (rc ps))[0]? = some (D.bool p.fst) ∧ (List.drop ((↑k : Int).toNat * 2) (rc ps))[1]? = some (du p.snd)) ∧ 0 + [D.bool p.fst, du p.snd].length ≤ (TI.mk (Kind.struct [(0, 1), (1, 1)]) 2 32 [D.bool false, D.lst 0 []]).zero.length ∧ K (St.mk [(3, V.d (D.int IntKind.i64 (↑(vr f.c k).fst : Int))), (4, V.d (D.int IntKind.i64 (vr f.c k).snd.sign)), (8, V.d (rp ps)), (9, V.d (D.int IntKind.i64 (↑ps.length : Int))), (10, V.d (D.int IntKind.i64 (↑k : Int))), (6, V.ptr 3 0)] [(3, some (Blk.mk [D.bool p.fst, du p.snd] true))] 5)) (fun K => by kernel_rfl) ?_
      refine ⟨⟨by omega, by omega, by simp; omega⟩, by rw [rc_drop0 hp1]; exact ⟨rfl, rfl⟩, by simp, ?_⟩
      refine awp_sx prog_ok hP hnt [] [.val (.d (.int .i64 (f.c k).sign))] [some [.bool p.1, du p.2]] [3, 4, 7, 8, 9, 10] (by kernel_rfl) (G := fun K => ([D.bool p.fst, du p.snd][0]? = some (D.bool p.fst) ∧ [D.bool p.fst, du p.snd][1]? = some (du p.snd)) ∧ Fn Try.prog 102 [V.agg [D.bool p.fst, du p.snd]] [] (V.d (D.int IntKind.i64 (f.c k).sign)) [] ∧ K (St.mk [(3, V.d (D.int IntKind.i64 (↑(vr f.c k).fst : Int))), (4, V.d (D.int IntKind.i64 (vr f.c k).snd.sign)), (8, V.d (rp ps)), (9, V.d (D.int IntKind.i64 (↑ps.length : Int))), (10, V.d (D.int IntKind.i64 (↑k : Int))), (7, V.d (D.int IntKind.i64 (f.c k).sign))] [(3, some (Blk.mk [D.bool p.fst, du p.snd] true))] 8)) (fun K => by kernel_rfl) ?_
      refine ⟨⟨rfl, rfl⟩, hs, ?_⟩
      obtain ⟨V, hV⟩ : ∃ V, V = vr f.c k := ⟨_, rfl⟩
      have hV1 : vr f.c (k + 1) = if f.c k = 0 then V else (if V.2 ≠ 0 ∧ V.2.sign ≠ (f.c k).sign then V.1 + 1 else V.1, f.c k) := by rw [vr, hV]
      rw [← hV] at hvl ⊢
      have hlast : ∀ (s' : St), K2 s' → True := fun _ _ => trivial
      refine awp_cut (ι := Unit) (fun _ => ⟨[(3, .d (.int .i64 (vr f.c (k + 1)).1)), (4, .d (.int .i64 V.2.sign)), (7, .d (.int .i64 (f.c k).sign)), (8, .d (rp ps)), (9, .d (.int .i64 ps.length)), (10, .d (.int .i64 k))], [], 0⟩) (fun _ => True) ?_ ?_
      · by_cases hz : f.c k = 0
        · rw [hV1, if_pos hz]
          refine awp_sx prog_ok hP hnt [(17, .bool false), (21, .bool false), (26, .bool false)] [] [] [3, 4, 7, 8, 9, 10, 26] (by kernel_rfl) (G := fun K => ((f.c k).sign != (0 : Int)) = false ∧ false = false ∧ false = false ∧ K (St.mk [(3, Abs.V.d (D.int IntKind.i64 (↑V.fst : Int))), (4, Abs.V.d (D.int IntKind.i64 V.snd.sign)), (8, Abs.V.d (rp ps)), (9, Abs.V.d (D.int IntKind.i64 (↑ps.length : Int))), (10, Abs.V.d (D.int IntKind.i64 (↑k : Int))), (7, Abs.V.d (D.int IntKind.i64 (f.c k).sign)), (26, Abs.V.d (D.bool false))] [(3, some (Blk.mk [D.bool p.fst, du p.snd] true))] 19)) (fun K => by kernel_rfl) ?_
          refine ⟨by rw [hz]; rfl, rfl, rfl, awp_cond (b := false) rfl nofun fun _ => awp_skip ⟨(), [], trivial, ?_⟩⟩
          (constructor <;> simp [hl, envOk, memOk, conv, St.get, St.blk])
        · have hsz : ((f.c k).sign != 0) = true := by simp [Int.sign_eq_zero_iff_zero]; exact hz
          rw [hV1, if_neg hz]
          by_cases hl0 : V.2 = 0
          · refine awp_sx prog_ok hP hnt [(17, .bool true), (20, .bool false), (21, .bool false), (26, .bool false)] [] [] [3, 4, 7, 8, 9, 10, 26] (by kernel_rfl) (G := fun K => ((f.c k).sign != (0 : Int)) = true ∧ (V.snd.sign != (0 : Int)) = false ∧ false = false ∧ false = false ∧ K (St.mk [(3, Abs.V.d (D.int IntKind.i64 (↑V.fst : Int))), (4, Abs.V.d (D.int IntKind.i64 V.snd.sign)), (8, Abs.V.d (rp ps)), (9, Abs.V.d (D.int IntKind.i64 (↑ps.length : Int))), (10, Abs.V.d (D.int IntKind.i64 (↑k : Int))), (7, Abs.V.d (D.int IntKind.i64 (f.c k).sign)), (26, Abs.V.d (D.bool false))] [(3, some (Blk.mk [D.bool p.fst, du p.snd] true))] 19)) (fun K => by kernel_rfl) ?_
            refine ⟨hsz, by rw [hl0]; rfl, rfl, rfl, awp_cond (b := false) rfl nofun fun _ => awp_skip ⟨(), [], trivial, ?_⟩⟩
            rw [if_neg (by simp [hl0])]
            (constructor <;> simp [hl, envOk, memOk, conv, St.get, St.blk])
          · have hs2 : (V.2.sign != 0) = true := by simp [Int.sign_eq_zero_iff_zero]; exact hl0
            refine awp_sx prog_ok hP hnt [(17, .bool true), (20, .bool true), (21, .bool true)] [] [] [3, 4, 7, 8, 9, 10, 26] (by kernel_rfl) (G := fun K => ((f.c k).sign != (0 : Int)) = true ∧ (V.snd.sign != (0 : Int)) = true ∧ true = true ∧ K (St.mk [(3, Abs.V.d (D.int IntKind.i64 (↑V.fst : Int))), (4, Abs.V.d (D.int IntKind.i64 V.snd.sign)), (8, Abs.V.d (rp ps)), (9, Abs.V.d (D.int IntKind.i64 (↑ps.length : Int))), (10, Abs.V.d (D.int IntKind.i64 (↑k : Int))), (7, Abs.V.d (D.int IntKind.i64 (f.c k).sign)), (26, Abs.V.d (D.bool ((f.c k).sign != V.snd.sign)))] [(3, some (Blk.mk [D.bool p.fst, du p.snd] true))] 19)) (fun K => by kernel_rfl) ?_
            refine ⟨hsz, hs2, rfl, awp_cond rfl (fun e2 => ?_) (fun e2 => awp_skip ⟨(), [], trivial, ?_⟩)⟩
            · simp at e2
              rw [if_pos ⟨hl0, fun h => e2 h.symm⟩]
              refine awp_x prog_ok hP hnt [(28, .int .i64 (V.1 + 1 : Nat))] [] [] [3, 4, 7, 8, 9, 10] (by kernel_rfl) (G := fun K => IntKind.i64.wrap ((↑V.fst : Int) + (1 : Int)) = (↑(V.fst + 1) : Int) ∧ K (St.mk [(3, Abs.V.d (D.int IntKind.i64 (↑(V.fst + 1) : Int))), (4, Abs.V.d (D.int IntKind.i64 V.snd.sign)), (8, Abs.V.d (rp ps)), (9, Abs.V.d (D.int IntKind.i64 (↑ps.length : Int))), (10, Abs.V.d (D.int IntKind.i64 (↑k : Int))), (7, Abs.V.d (D.int IntKind.i64 (f.c k).sign))] [(3, some (Blk.mk [D.bool p.fst, du p.snd] true))] 22)) (fun K => by kernel_rfl) ?_
              refine ⟨by rw [w64] <;> omega, (), [], trivial, ?_⟩
              (constructor <;> simp [hl, envOk, memOk, conv, St.get, St.blk])
            · simp at e2
              rw [if_neg (by rw [e2]; simp)]
              (constructor <;> simp [hl, envOk, memOk, conv, St.get, St.blk])
      intro _ _
      by_cases hz : f.c k = 0
      · refine awp_sx prog_ok hP hnt [(30, .bool false)] [] [] [3, 4, 7, 8, 9, 10, 30] (by kernel_rfl) (G := fun K => ((f.c k).sign != (0 : Int)) = false ∧ K (St.mk [(3, Abs.V.d (D.int IntKind.i64 (↑(vr f.c (k + 1)).fst : Int))), (4, Abs.V.d (D.int IntKind.i64 V.snd.sign)), (7, Abs.V.d (D.int IntKind.i64 (f.c k).sign)), (8, Abs.V.d (rp ps)), (9, Abs.V.d (D.int IntKind.i64 (↑ps.length : Int))), (10, Abs.V.d (D.int IntKind.i64 (↑k : Int))), (30, Abs.V.d (D.bool false))] [] 2)) (fun K => by kernel_rfl) ?_
        refine ⟨by rw [hz]; rfl, awp_cond (b := false) rfl nofun fun _ => awp_skip (hK2 _ ?_)⟩
        refine awp_x prog_ok hP hnt [(32, .int .i64 (k + 1 : Nat))] [] [] [3, 4, 8, 9, 10] (by kernel_rfl) (G := fun K => IntKind.i64.wrap ((↑k : Int) + (1 : Int)) = (↑(k + 1) : Int) ∧ K (St.mk [(3, Abs.V.d (D.int IntKind.i64 (↑(vr f.c (k + 1)).fst : Int))), (4, Abs.V.d (D.int IntKind.i64 V.snd.sign)), (8, Abs.V.d (rp ps)), (9, Abs.V.d (D.int IntKind.i64 (↑ps.length : Int))), (10, Abs.V.d (D.int IntKind.i64 (↑(k + 1) : Int)))] [] 4)) (fun K => by kernel_rfl) ?_
        refine ⟨by rw [w64] <;> omega, k + 1, [], ⟨by omega, by omega⟩, ?_⟩
        have : (vr f.c (k + 1)).2 = V.2 := by rw [hV1, if_pos hz]
        rw [this]
        (constructor <;> simp [hl, envOk, memOk, conv, St.get, St.blk])
      · have hsz : ((f.c k).sign != 0) = true := by simp [Int.sign_eq_zero_iff_zero]; exact hz
        refine awp_sx prog_ok hP hnt [(30, .bool true)] [] [] [3, 4, 7, 8, 9, 10, 30] (by kernel_rfl) (G := fun K => ((f.c k).sign != (0 : Int)) = true ∧ K (St.mk [(3, Abs.V.d (D.int IntKind.i64 (↑(vr f.c (k + 1)).fst : Int))), (4, Abs.V.d (D.int IntKind.i64 V.snd.sign)), (7, Abs.V.d (D.int IntKind.i64 (f.c k).sign)), (8, Abs.V.d (rp ps)), (9, Abs.V.d (D.int IntKind.i64 (↑ps.length : Int))), (10, Abs.V.d (D.int IntKind.i64 (↑k : Int))), (30, Abs.V.d (D.bool true))] [] 2)) (fun K => by kernel_rfl) ?_
        refine ⟨hsz, awp_cond (b := true) rfl (fun _ => ?_) nofun⟩
        refine awp_x prog_ok hP hnt [] [] [] [3, 4, 8, 9, 10] (by kernel_rfl) (G := fun K => K (St.mk [(3, Abs.V.d (D.int IntKind.i64 (↑(vr f.c (k + 1)).fst : Int))), (4, Abs.V.d (D.int IntKind.i64 (f.c k).sign)), (8, Abs.V.d (rp ps)), (9, Abs.V.d (D.int IntKind.i64 (↑ps.length : Int))), (10, Abs.V.d (D.int IntKind.i64 (↑k : Int)))] [] 4)) (fun K => by kernel_rfl) ?_
        refine hK2 _ ?_
        refine awp_x prog_ok hP hnt [(32, .int .i64 (k + 1 : Nat))] [] [] [3, 4, 8, 9, 10] (by kernel_rfl) (G := fun K => IntKind.i64.wrap ((↑k : Int) + (1 : Int)) = (↑(k + 1) : Int) ∧ K (St.mk [(3, Abs.V.d (D.int IntKind.i64 (↑(vr f.c (k + 1)).fst : Int))), (4, Abs.V.d (D.int IntKind.i64 (f.c k).sign)), (8, Abs.V.d (rp ps)), (9, Abs.V.d (D.int IntKind.i64 (↑ps.length : Int))), (10, Abs.V.d (D.int IntKind.i64 (↑(k + 1) : Int)))] [] 6)) (fun K => by kernel_rfl) ?_
        refine ⟨by rw [w64] <;> omega, k + 1, [], ⟨by omega, by omega⟩, ?_⟩
        have : (vr f.c (k + 1)).2 = f.c k := by rw [hV1, if_neg hz]
        rw [this]
        (constructor <;> simp [hl, envOk, memOk, conv, St.get, St.blk])
    · simp at e
      have : k = ps.length := by omega
      subst this
      (constructor <;> simp [hl, envOk, memOk, conv, St.get, St.blk])
  intro _ _
  refine awp_sx prog_ok hP hnt [] [] [] [2] (by kernel_rfl) (G := fun K => K (St.mk [(2, V.d (D.int IntKind.i64 (↑(vr f.c ps.length).fst : Int)))] [] 2)) (fun K => by kernel_rfl) ?_
  exact awp_ret ⟨.inl rfl, retD rfl⟩
end Go.Abs

set_option linter.unusedVariables false
set_option linter.unusedSimpArgs false
namespace Go.Abs
open Go Go.Proofs Poly
set_option maxRecDepth 100000

theorem rvars_fn (l : List Int) (hn : l.length ≤ 2 ^ 30) (h64 : In64 l) : Fn Try.prog 83 [.d (.lst l.length (i64s l))] [] (.d (.int .i64 ((vr (fun k => l.getD k 0) l.length).1 : Nat))) [] := by
  refine fn0 (nt := 44) (res := [.tmp 2]) Try.func83 rfl (by decide) rfl rfl rfl rfl ?_
  intro Cx hP hnt hl
  obtain ⟨F, hF⟩ : ∃ F : Nat → Int, F = fun k => l.getD k 0 := ⟨_, rfl⟩
  rw [← hF]
  refine awp_sx prog_ok hP hnt [] [] [] [0] (by kernel_rfl) (G := fun K => K (St.mk [(0, V.d (D.lst l.length (i64s l)))] [] 1)) (fun K => by kernel_rfl) ?_
  refine awp_sx prog_ok hP hnt [] [] [] [0, 3] (by kernel_rfl) (G := fun K => K (St.mk [(0, V.d (D.lst l.length (i64s l))), (3, V.d (D.int IntKind.i64 (0 : Int)))] [] 2)) (fun K => by kernel_rfl) ?_
  refine awp_sx prog_ok hP hnt [] [] [] [0, 3, 4] (by kernel_rfl) (G := fun K => K (St.mk [(0, V.d (D.lst l.length (i64s l))), (3, V.d (D.int IntKind.i64 (0 : Int))), (4, V.d (D.int IntKind.i64 (0 : Int)))] [] 3)) (fun K => by kernel_rfl) ?_
  refine awp_cut (ι := Unit) (fun _ => ⟨[(3, .d (.int .i64 (vr F l.length).1))], [], 0⟩) (fun _ => True) ?_ ?_
  · refine awp_sx prog_ok hP hnt [] [] [] [0, 3, 4, 5] (by kernel_rfl) (G := fun K => K (St.mk [(0, V.d (D.lst l.length (i64s l))), (3, V.d (D.int IntKind.i64 (0 : Int))), (4, V.d (D.int IntKind.i64 (0 : Int))), (5, V.d (D.int IntKind.i64 (0 : Int)))] [] 4)) (fun K => by kernel_rfl) ?_
    refine awp_block ?_
    refine awp_loop (ι := Nat) (fun k => ⟨[(0, .d (.lst l.length (i64s l))), (3, .d (.int .i64 (vr F k).1)), (4, .d (.int .i64 (vr F k).2)), (5, .d (.int .i64 k))], [], 0⟩)
      (fun k => k ≤ l.length) (fun k => l.length - k) 0 [] (by omega) ?_ ?_
    · (constructor <;> simp [hl, envOk, memOk, conv, St.get, St.blk, vr])
    intro k hk
    refine awp_seq_k fun K1 hK1 => ?_
    refine awp_sx prog_ok hP hnt [] [] [] [0, 3, 4, 5, 9] (by kernel_rfl) (G := fun K => K (St.mk [(0, V.d (D.lst l.length (i64s l))), (3, V.d (D.int IntKind.i64 (↑(vr F k).fst : Int))), (4, V.d (D.int IntKind.i64 (vr F k).snd)), (5, V.d (D.int IntKind.i64 (↑k : Int))), (9, V.d (D.bool (decide ((↑k : Int) < (↑l.length : Int)))))] [] 4)) (fun K => by kernel_rfl) ?_
    refine awp_cond rfl (fun e => awp_skip (hK1 _ ?_)) (fun e => awp_exit ⟨(), [], trivial, ?_⟩)
    · simp at e
      obtain ⟨z, hz⟩ := get_ex (l := l) (i := k) e
      have hzF : F k = z := by rw [hF]; simp only; rw [List.getD_eq_getElem?_getD, hz]; rfl
      have hvl := vr_le F k
      obtain ⟨V, hV⟩ : ∃ V, V = vr F k := ⟨_, rfl⟩
      have hV1 : vr F (k + 1) = if z = 0 then V else (if V.2 ≠ 0 ∧ V.2.sign ≠ z.sign then V.1 + 1 else V.1, z) := by rw [vr, hV, hzF]
      rw [← hV] at hvl ⊢
      have hb : (0 : Int) ≤ (k : Int) ∧ (k : Int) < (l.length : Int) ∧ ((k : Int).toNat + 1) * 1 ≤ (i64s l).length := ⟨by omega, by omega, by simp; omega⟩
      have hg : (List.drop ((k : Int).toNat * 1) (i64s l))[0]? = some (D.int .i64 z) := by simp [hz]
      refine awp_cut (ι := Unit) (fun _ => ⟨[(0, .d (.lst l.length (i64s l))), (3, .d (.int .i64 (vr F (k + 1)).1)), (4, .d (.int .i64 (vr F (k + 1)).2)), (5, .d (.int .i64 k))], [], 0⟩) (fun _ => True) ?_ ?_
      · refine awp_block ?_
        refine awp_seq_k fun K2 hK2 => ?_
        by_cases h0 : z = 0
        · rw [hV1, if_pos h0] at *
          refine awp_sx prog_ok hP hnt [(16, .bool true)] [] [some [.int .i64 z]] [0, 3, 4, 5, 16] (by kernel_rfl) (G := fun K => ((0 : Int) ≤ (↑k : Int) ∧ (↑k : Int) < (↑l.length : Int) ∧ ((↑k : Int).toNat + 1) * 1 ≤ (i64s l).length) ∧ (List.drop ((↑k : Int).toNat * 1) (i64s l))[0]? = some (D.int IntKind.i64 z) ∧ (z == (0 : Int)) = true ∧ K (St.mk [(0, Abs.V.d (D.lst l.length (i64s l))), (3, Abs.V.d (D.int IntKind.i64 (↑V.fst : Int))), (4, Abs.V.d (D.int IntKind.i64 V.snd)), (5, Abs.V.d (D.int IntKind.i64 (↑k : Int))), (16, Abs.V.d (D.bool true))] [] 9)) (fun K => by kernel_rfl) ?_
          refine ⟨hb, hg, by rw [h0]; rfl, awp_cond (b := true) rfl (fun _ => awp_exit ⟨(), [], trivial, ?_⟩) nofun⟩
          (constructor <;> simp [hl, envOk, memOk, conv, St.get, St.blk])
        · refine awp_sx prog_ok hP hnt [(16, .bool false)] [] [some [.int .i64 z]] [0, 3, 4, 5, 16] (by kernel_rfl) (G := fun K => ((0 : Int) ≤ (↑k : Int) ∧ (↑k : Int) < (↑l.length : Int) ∧ ((↑k : Int).toNat + 1) * 1 ≤ (i64s l).length) ∧ (List.drop ((↑k : Int).toNat * 1) (i64s l))[0]? = some (D.int IntKind.i64 z) ∧ (z == (0 : Int)) = false ∧ K (St.mk [(0, Abs.V.d (D.lst l.length (i64s l))), (3, Abs.V.d (D.int IntKind.i64 (↑V.fst : Int))), (4, Abs.V.d (D.int IntKind.i64 V.snd)), (5, Abs.V.d (D.int IntKind.i64 (↑k : Int))), (16, Abs.V.d (D.bool false))] [] 9)) (fun K => by kernel_rfl) ?_
          refine ⟨hb, hg, by simp; exact h0, awp_cond (b := false) rfl nofun fun _ => awp_skip (hK2 _ ?_)⟩
          rw [if_neg h0] at hV1
          refine awp_cut (ι := Unit) (fun _ => ⟨[(0, .d (.lst l.length (i64s l))), (3, .d (.int .i64 (vr F (k + 1)).1)), (5, .d (.int .i64 k))], [], 0⟩) (fun _ => True) ?_ ?_
          · rw [hV1]
            by_cases hneg : V.2 < 0
            · have hs1 : V.2.sign = -1 := Int.sign_eq_neg_one_of_neg hneg
              by_cases hzp : 0 < z
              · have hs2 : z.sign = 1 := Int.sign_eq_one_of_pos hzp
                refine awp_sx prog_ok hP hnt [(18, .bool true), (24, .bool true), (25, .bool true), (36, .bool true)] [] [some [.int .i64 z]] [0, 3, 5, 36] (by kernel_rfl) (G := fun K => decide (V.snd < (0 : Int)) = true ∧ ((0 : Int) ≤ (↑k : Int) ∧ (↑k : Int) < (↑l.length : Int) ∧ ((↑k : Int).toNat + 1) * 1 ≤ (i64s l).length) ∧ (List.drop ((↑k : Int).toNat * 1) (i64s l))[0]? = some (D.int IntKind.i64 z) ∧ decide (z > (0 : Int)) = true ∧ true = true ∧ true = true ∧ K (St.mk [(0, Abs.V.d (D.lst l.length (i64s l))), (3, Abs.V.d (D.int IntKind.i64 (↑V.fst : Int))), (5, Abs.V.d (D.int IntKind.i64 (↑k : Int))), (36, Abs.V.d (D.bool true))] [] 29)) (fun K => by kernel_rfl) ?_
                refine ⟨by simp; omega, hb, hg, by simp; omega, rfl, rfl, awp_cond (b := true) rfl (fun _ => ?_) nofun⟩
                rw [if_pos ⟨by omega, by omega⟩]
                refine awp_x prog_ok hP hnt [(38, .int .i64 (V.1 + 1 : Nat))] [] [] [0, 3, 5] (by kernel_rfl) (G := fun K => IntKind.i64.wrap ((↑V.fst : Int) + (1 : Int)) = (↑(V.fst + 1) : Int) ∧ K (St.mk [(0, Abs.V.d (D.lst l.length (i64s l))), (3, Abs.V.d (D.int IntKind.i64 (↑(V.fst + 1) : Int))), (5, Abs.V.d (D.int IntKind.i64 (↑k : Int)))] [] 32)) (fun K => by kernel_rfl) ?_
                refine ⟨by rw [w64] <;> omega, (), [], trivial, ?_⟩
                (constructor <;> simp [hl, envOk, memOk, conv, St.get, St.blk])
              · have hs2 : z.sign = -1 := Int.sign_eq_neg_one_of_neg (by omega)
                refine awp_sx prog_ok hP hnt [(18, .bool true), (24, .bool false), (25, .bool false), (28, .bool false), (35, .bool false), (36, .bool false)] [] [some [.int .i64 z]] [0, 3, 5, 36] (by kernel_rfl) (G := fun K => decide (V.snd < (0 : Int)) = true ∧ ((0 : Int) ≤ (↑k : Int) ∧ (↑k : Int) < (↑l.length : Int) ∧ ((↑k : Int).toNat + 1) * 1 ≤ (i64s l).length) ∧ (List.drop ((↑k : Int).toNat * 1) (i64s l))[0]? = some (D.int IntKind.i64 z) ∧ decide (z > (0 : Int)) = false ∧ false = false ∧ decide (V.snd > (0 : Int)) = false ∧ false = false ∧ false = false ∧ K (St.mk [(0, Abs.V.d (D.lst l.length (i64s l))), (3, Abs.V.d (D.int IntKind.i64 (↑V.fst : Int))), (5, Abs.V.d (D.int IntKind.i64 (↑k : Int))), (36, Abs.V.d (D.bool false))] [] 29)) (fun K => by kernel_rfl) ?_
                refine ⟨by simp; omega, hb, hg, by simp; omega, rfl, by simp; omega, rfl, rfl, awp_cond (b := false) rfl nofun fun _ => awp_skip ⟨(), [], trivial, ?_⟩⟩
                rw [if_neg (by omega)]
                (constructor <;> simp [hl, envOk, memOk, conv, St.get, St.blk])
            · by_cases hpos : 0 < V.2
              · have hs1 : V.2.sign = 1 := Int.sign_eq_one_of_pos hpos
                by_cases hzn : z < 0
                · have hs2 : z.sign = -1 := Int.sign_eq_neg_one_of_neg hzn
                  refine awp_sx prog_ok hP hnt [(18, .bool false), (25, .bool false), (28, .bool true), (34, .bool true), (35, .bool true), (36, .bool true)] [] [some [.int .i64 z]] [0, 3, 5, 36] (by kernel_rfl) (G := fun K => decide (V.snd < (0 : Int)) = false ∧ false = false ∧ decide (V.snd > (0 : Int)) = true ∧ ((0 : Int) ≤ (↑k : Int) ∧ (↑k : Int) < (↑l.length : Int) ∧ ((↑k : Int).toNat + 1) * 1 ≤ (i64s l).length) ∧ (List.drop ((↑k : Int).toNat * 1) (i64s l))[0]? = some (D.int IntKind.i64 z) ∧ decide (z < (0 : Int)) = true ∧ true = true ∧ true = true ∧ K (St.mk [(0, Abs.V.d (D.lst l.length (i64s l))), (3, Abs.V.d (D.int IntKind.i64 (↑V.fst : Int))), (5, Abs.V.d (D.int IntKind.i64 (↑k : Int))), (36, Abs.V.d (D.bool true))] [] 29)) (fun K => by kernel_rfl) ?_
                  refine ⟨by simp; omega, rfl, by simp; omega, hb, hg, by simp; omega, rfl, rfl, awp_cond (b := true) rfl (fun _ => ?_) nofun⟩
                  rw [if_pos ⟨by omega, by omega⟩]
                  refine awp_x prog_ok hP hnt [(38, .int .i64 (V.1 + 1 : Nat))] [] [] [0, 3, 5] (by kernel_rfl) (G := fun K => IntKind.i64.wrap ((↑V.fst : Int) + (1 : Int)) = (↑(V.fst + 1) : Int) ∧ K (St.mk [(0, Abs.V.d (D.lst l.length (i64s l))), (3, Abs.V.d (D.int IntKind.i64 (↑(V.fst + 1) : Int))), (5, Abs.V.d (D.int IntKind.i64 (↑k : Int)))] [] 32)) (fun K => by kernel_rfl) ?_
                  refine ⟨by rw [w64] <;> omega, (), [], trivial, ?_⟩
                  (constructor <;> simp [hl, envOk, memOk, conv, St.get, St.blk])
                · have hs2 : z.sign = 1 := Int.sign_eq_one_of_pos (by omega)
                  refine awp_sx prog_ok hP hnt [(18, .bool false), (25, .bool false), (28, .bool true), (34, .bool false), (35, .bool false), (36, .bool false)] [] [some [.int .i64 z]] [0, 3, 5, 36] (by kernel_rfl) (G := fun K => decide (V.snd < (0 : Int)) = false ∧ false = false ∧ decide (V.snd > (0 : Int)) = true ∧ ((0 : Int) ≤ (↑k : Int) ∧ (↑k : Int) < (↑l.length : Int) ∧ ((↑k : Int).toNat + 1) * 1 ≤ (i64s l).length) ∧ (List.drop ((↑k : Int).toNat * 1) (i64s l))[0]? = some (D.int IntKind.i64 z) ∧ decide (z < (0 : Int)) = false ∧ false = false ∧ false = false ∧ K (St.mk [(0, Abs.V.d (D.lst l.length (i64s l))), (3, Abs.V.d (D.int IntKind.i64 (↑V.fst : Int))), (5, Abs.V.d (D.int IntKind.i64 (↑k : Int))), (36, Abs.V.d (D.bool false))] [] 29)) (fun K => by kernel_rfl) ?_
                  refine ⟨by simp; omega, rfl, by simp; omega, hb, hg, by simp; omega, rfl, rfl, awp_cond (b := false) rfl nofun fun _ => awp_skip ⟨(), [], trivial, ?_⟩⟩
                  rw [if_neg (by omega)]
                  (constructor <;> simp [hl, envOk, memOk, conv, St.get, St.blk])
              · have hz0 : V.2 = 0 := by omega
                refine awp_sx prog_ok hP hnt [(18, .bool false), (25, .bool false), (28, .bool false), (35, .bool false), (36, .bool false)] [] [] [0, 3, 5, 36] (by kernel_rfl) (G := fun K => decide (V.snd < (0 : Int)) = false ∧ false = false ∧ decide (V.snd > (0 : Int)) = false ∧ false = false ∧ false = false ∧ K (St.mk [(0, Abs.V.d (D.lst l.length (i64s l))), (3, Abs.V.d (D.int IntKind.i64 (↑V.fst : Int))), (5, Abs.V.d (D.int IntKind.i64 (↑k : Int))), (36, Abs.V.d (D.bool false))] [] 29)) (fun K => by kernel_rfl) ?_
                refine ⟨by simp; omega, rfl, by simp; omega, rfl, rfl, awp_cond (b := false) rfl nofun fun _ => awp_skip ⟨(), [], trivial, ?_⟩⟩
                rw [if_neg (by omega)]
                (constructor <;> simp [hl, envOk, memOk, conv, St.get, St.blk])
          intro _ _
          have h2 : (vr F (k + 1)).2 = z := by rw [hV1]
          refine awp_x prog_ok hP hnt [] [] [some [.int .i64 z]] [0, 3, 4, 5] (by kernel_rfl) (G := fun K => ((0 : Int) ≤ (↑k : Int) ∧ (↑k : Int) < (↑l.length : Int) ∧ ((↑k : Int).toNat + 1) * 1 ≤ (i64s l).length) ∧ (List.drop ((↑k : Int).toNat * 1) (i64s l))[0]? = some (D.int IntKind.i64 z) ∧ K (St.mk [(0, Abs.V.d (D.lst l.length (i64s l))), (3, Abs.V.d (D.int IntKind.i64 (↑(vr F (k + 1)).fst : Int))), (5, Abs.V.d (D.int IntKind.i64 (↑k : Int))), (4, Abs.V.d (D.int IntKind.i64 z))] [] 5)) (fun K => by kernel_rfl) ?_
          refine ⟨hb, hg, (), [], trivial, ?_⟩
          rw [h2]
          (constructor <;> simp [hl, envOk, memOk, conv, St.get, St.blk])
      intro _ _
      refine awp_x prog_ok hP hnt [(11, .int .i64 (k + 1 : Nat))] [] [] [0, 3, 4, 5] (by kernel_rfl) (G := fun K => IntKind.i64.wrap ((↑k : Int) + (1 : Int)) = (↑(k + 1) : Int) ∧ K (St.mk [(0, Abs.V.d (D.lst l.length (i64s l))), (3, Abs.V.d (D.int IntKind.i64 (↑(vr F (k + 1)).fst : Int))), (4, Abs.V.d (D.int IntKind.i64 (vr F (k + 1)).snd)), (5, Abs.V.d (D.int IntKind.i64 (↑(k + 1) : Int)))] [] 3)) (fun K => by kernel_rfl) ?_
      refine ⟨by rw [w64] <;> omega, k + 1, [], ⟨by omega, by omega⟩, ?_⟩
      (constructor <;> simp [hl, envOk, memOk, conv, St.get, St.blk])
    · simp at e
      have : k = l.length := by omega
      subst this
      (constructor <;> simp [hl, envOk, memOk, conv, St.get, St.blk])
  intro _ _
  refine awp_sx prog_ok hP hnt [] [] [] [2] (by kernel_rfl) (G := fun K => K (St.mk [(2, V.d (D.int IntKind.i64 (↑(vr F l.length).fst : Int)))] [] 2)) (fun K => by kernel_rfl) ?_
  exact awp_ret ⟨.inl rfl, retD rfl⟩

/-- sum of squares -/
def nrm (F : Nat → Int) : Nat → Int
  | 0 => 0
  | k + 1 => nrm F k + F k * F k
theorem sq_nn (x : Int) : 0 ≤ x * x := by
  rcases Int.le_total 0 x with h | h
  · exact Int.mul_nonneg h h
  · have := Int.mul_nonneg (show 0 ≤ -x by omega) (show 0 ≤ -x by omega)
    rwa [Int.neg_mul_neg] at this
theorem nrm_nn (F : Nat → Int) : ∀ k, 0 ≤ nrm F k
  | 0 => Int.le_refl _
  | k + 1 => by have := nrm_nn F k; have := sq_nn (F k); unfold nrm; omega
theorem nrm_le {F : Nat → Int} {M : Nat} (h : ∀ k, (F k).natAbs ≤ M) : ∀ k, (nrm F k).natAbs ≤ k * (M * M)
  | 0 => by simp [nrm]
  | k + 1 => by
    have h1 := nrm_le h k
    have h2 : (F k * F k).natAbs ≤ M * M := by rw [Int.natAbs_mul]; exact Nat.mul_le_mul (h k) (h k)
    unfold nrm
    rw [Nat.add_mul, Nat.one_mul]
    omega
theorem nrm_ext {F G : Nat → Int} : ∀ {k : Nat}, (∀ i, i < k → F i = G i) → nrm F k = nrm G k
  | 0, _ => rfl
  | k + 1, h => by
    unfold nrm
    rw [nrm_ext fun i hi => h i (by omega), h k (by omega)]
theorem nrm_more {F : Nat → Int} {n : Nat} : ∀ {m : Nat}, n ≤ m → (∀ k, n ≤ k → F k = 0) → nrm F m = nrm F n
  | 0, h, _ => by rw [show n = 0 by omega]
  | m + 1, h, hz => by
    rcases Nat.lt_or_ge m n with h1 | h1
    · rw [show n = m + 1 by omega]
    · rw [← nrm_more h1 hz, nrm, hz m h1]; simp
noncomputable def norm (f : Poly) : Int := nrm f.c f.sz

theorem rnorm_fn (l : List Int) (hn : l.length ≤ 100) (hb : ∀ z ∈ l, z.natAbs ≤ 100000) : Fn Try.prog 86 [.d (.lst l.length (i64s l))] [] (.d (.int .i64 (nrm (fun k => l.getD k 0) l.length))) [] := by
  refine fn0 (nt := 23) (res := [.tmp 2]) Try.func86 rfl (by decide) rfl rfl rfl rfl ?_
  intro Cx hP hnt hl
  obtain ⟨F, hF⟩ : ∃ F : Nat → Int, F = fun k => l.getD k 0 := ⟨_, rfl⟩
  rw [← hF]
  have hFb : ∀ k, (F k).natAbs ≤ 100000 := fun k => by
    rw [hF]; simp only; rw [List.getD_eq_getElem?_getD]
    cases e : l[k]? with
    | none => simp
    | some z => exact hb z (List.mem_of_getElem? e)
  refine awp_sx prog_ok hP hnt [] [] [] [0] (by kernel_rfl) (G := fun K => K (St.mk [(0, V.d (D.lst l.length (i64s l)))] [] 1)) (fun K => by kernel_rfl) ?_
  refine awp_sx prog_ok hP hnt [] [] [] [0, 3] (by kernel_rfl) (G := fun K => K (St.mk [(0, V.d (D.lst l.length (i64s l))), (3, V.d (D.int IntKind.i64 (0 : Int)))] [] 2)) (fun K => by kernel_rfl) ?_
  refine awp_cut (ι := Unit) (fun _ => ⟨[(3, .d (.int .i64 (nrm F l.length)))], [], 0⟩) (fun _ => True) ?_ ?_
  · refine awp_sx prog_ok hP hnt [] [] [] [0, 3, 4] (by kernel_rfl) (G := fun K => K (St.mk [(0, V.d (D.lst l.length (i64s l))), (3, V.d (D.int IntKind.i64 (0 : Int))), (4, V.d (D.int IntKind.i64 (0 : Int)))] [] 3)) (fun K => by kernel_rfl) ?_
    refine awp_block ?_
    refine awp_loop (ι := Nat) (fun k => ⟨[(0, .d (.lst l.length (i64s l))), (3, .d (.int .i64 (nrm F k))), (4, .d (.int .i64 k))], [], 0⟩)
      (fun k => k ≤ l.length) (fun k => l.length - k) 0 [] (by omega) ?_ ?_
    · (constructor <;> simp [hl, envOk, memOk, conv, St.get, St.blk, nrm])
    intro k hk
    refine awp_seq_k fun K1 hK1 => ?_
    refine awp_sx prog_ok hP hnt [] [] [] [0, 3, 4, 8] (by kernel_rfl) (G := fun K => K (St.mk [(0, V.d (D.lst l.length (i64s l))), (3, V.d (D.int IntKind.i64 (nrm F k))), (4, V.d (D.int IntKind.i64 (↑k : Int))), (8, V.d (D.bool (decide ((↑k : Int) < (↑l.length : Int)))))] [] 4)) (fun K => by kernel_rfl) ?_
    refine awp_cond rfl (fun e => awp_skip (hK1 _ ?_)) (fun e => awp_exit ⟨(), [], trivial, ?_⟩)
    · simp at e
      obtain ⟨z, hz⟩ := get_ex (l := l) (i := k) e
      have hzF : F k = z := by rw [hF]; simp only; rw [List.getD_eq_getElem?_getD, hz]; rfl
      have h1 := nrm_le hFb k
      have h2 := nrm_le hFb (k + 1)
      have hzb := hFb k
      rw [hzF] at hzb
      have hzz : (z * z).natAbs ≤ 100000 * 100000 := by rw [Int.natAbs_mul]; exact Nat.mul_le_mul hzb hzb
      have hs : nrm F (k + 1) = nrm F k + z * z := by rw [nrm, hzF]
      have hb2 : (0 : Int) ≤ (k : Int) ∧ (k : Int) < (l.length : Int) ∧ ((k : Int).toNat + 1) * 1 ≤ (i64s l).length := ⟨by omega, by omega, by simp; omega⟩
      have hg : (List.drop ((k : Int).toNat * 1) (i64s l))[0]? = some (D.int .i64 z) := by simp [hz]
      refine awp_seq_k fun K2 hK2 => ?_
      refine awp_block ?_
      have hk1 : (k + 1) * (100000 * 100000) ≤ 100 * (100000 * 100000) := Nat.mul_le_mul_right _ (by omega)
      have hk0 : k * (100000 * 100000) ≤ 100 * (100000 * 100000) := Nat.mul_le_mul_right _ (by omega)
      refine awp_x prog_ok hP hnt [(20, .int .i64 (z * z)), (21, .int .i64 (nrm F (k + 1)))] [] [some [.int .i64 z], some [.int .i64 z]] [0, 3, 4] (by kernel_rfl) (G := fun K => ((0 : Int) ≤ (↑k : Int) ∧ (↑k : Int) < (↑l.length : Int) ∧ ((↑k : Int).toNat + 1) * 1 ≤ (i64s l).length) ∧ (List.drop ((↑k : Int).toNat * 1) (i64s l))[0]? = some (D.int IntKind.i64 z) ∧ ((0 : Int) ≤ (↑k : Int) ∧ (↑k : Int) < (↑l.length : Int) ∧ ((↑k : Int).toNat + 1) * 1 ≤ (i64s l).length) ∧ (List.drop ((↑k : Int).toNat * 1) (i64s l))[0]? = some (D.int IntKind.i64 z) ∧ IntKind.i64.wrap (z * z) = z * z ∧ IntKind.i64.wrap (nrm F k + z * z) = nrm F (k + 1) ∧ K (St.mk [(0, V.d (D.lst l.length (i64s l))), (3, V.d (D.int IntKind.i64 (nrm F (k + 1)))), (4, V.d (D.int IntKind.i64 (↑k : Int)))] [] 16)) (fun K => by kernel_rfl) ?_
      refine ⟨hb2, hg, hb2, hg, by rw [w64] <;> omega, by rw [hs, w64] <;> omega, hK2 _ ?_⟩
      refine awp_x prog_ok hP hnt [(10, .int .i64 (k + 1 : Nat))] [] [] [0, 3, 4] (by kernel_rfl) (G := fun K => IntKind.i64.wrap ((↑k : Int) + (1 : Int)) = (↑(k + 1) : Int) ∧ K (St.mk [(0, V.d (D.lst l.length (i64s l))), (3, V.d (D.int IntKind.i64 (nrm F (k + 1)))), (4, V.d (D.int IntKind.i64 (↑(k + 1) : Int)))] [] 19)) (fun K => by kernel_rfl) ?_
      refine ⟨by rw [w64] <;> omega, k + 1, [], ⟨by omega, by omega⟩, ?_⟩
      (constructor <;> simp [hl, envOk, memOk, conv, St.get, St.blk])
    · simp at e
      have : k = l.length := by omega
      subst this
      (constructor <;> simp [hl, envOk, memOk, conv, St.get, St.blk])
  intro _ _
  refine awp_sx prog_ok hP hnt [] [] [] [2] (by kernel_rfl) (G := fun K => K (St.mk [(2, V.d (D.int IntKind.i64 (nrm F l.length)))] [] 2)) (fun K => by kernel_rfl) ?_
  exact awp_ret ⟨.inl rfl, retD rfl⟩

theorem normsqP {i : Nat} {ps : List RI} (hi : i ≤ 12) (hp : W i ps) : Fn Try.prog 85 [.d (rp ps)] [] (.agg (iz (norm (pol ps)))) [] := by
  refine fn0 (nt := 20) (res := [.cell 2 46]) Try.func85 rfl (by decide) rfl rfl rfl rfl ?_
  intro Cx hP hnt hl
  obtain ⟨f, hf⟩ : ∃ f, f = pol ps := ⟨_, rfl⟩
  have hlv : Lv i f := hf ▸ hp.lv
  have hv : norm f = nrm f.c ps.length := by
    unfold norm
    rw [nrm_more (n := f.sz) (m := ps.length) (hf ▸ pol_sz ps) fun k hk => above hk]
  have h4 := lim4 hi
  have h2 := lim2 hi
  have hpl : ps.length ≤ 2 ^ 30 := by have := hp.len; omega
  have hlb := lvbits hi
  have hbits := hlv.bits
  obtain ⟨KB, hKB⟩ : ∃ KB, KB = 1280 * 4 ^ i := ⟨_, rfl⟩
  rw [← hKB] at hlb hbits
  have hnb : ∀ k, k ≤ ps.length → (nrm f.c k).natAbs < 2 ^ (KB + KB + 31) := fun k hk => by
    have h1 := nrm_le (M := 2 ^ KB) (fun k => Nat.le_of_lt (hbits k)) k
    have hp31 : k < 2 ^ 31 := by omega
    refine Nat.lt_of_le_of_lt h1 ?_
    rw [Nat.pow_add, Nat.pow_add, Nat.mul_comm]
    exact Nat.mul_lt_mul_of_pos_left hp31 (Nat.mul_pos (Nat.pow_pos (by omega)) (Nat.pow_pos (by omega)))
  have hz0 := iOf_fn 0 (by decide) (by decide)
  rw [← hf, hv]
  refine awp_sx prog_ok hP hnt [] [] [] [0, 2] (by kernel_rfl) (G := fun K => K (St.mk [(0, V.d (rp ps)), (2, V.ptr 0 0)] [(0, some (Blk.mk [D.bool false, D.lst 0 []] true))] 1)) (fun K => by kernel_rfl) ?_
  refine awp_sx prog_ok hP hnt [] [.val (.agg (iz 0))] [] [0, 2, 3] (by kernel_rfl) (G := fun K => Fn Try.prog 74 [V.d (D.int IntKind.i64 (0 : Int))] [] (V.agg [D.bool (decide ((0 : Int) < (0 : Int))), du (dig (Int.natAbs (0 : Int)))]) [] ∧ 2 ≤ (TI.mk (Kind.struct [(0, 1), (1, 1)]) 2 32 [D.bool false, D.lst 0 []]).zero.length ∧ K (St.mk [(0, V.d (rp ps)), (2, V.ptr 0 0), (3, V.ptr 2 0)] [(0, some (Blk.mk [D.bool false, D.lst 0 []] true)), (2, some (Blk.mk [D.bool (decide ((0 : Int) < (0 : Int))), du (dig (Int.natAbs (0 : Int)))] true))] 4)) (fun K => by kernel_rfl) ?_
  refine ⟨hz0, by simp [iz], ?_⟩
  refine awp_cut (ι := Unit) (fun _ => ⟨[(2, .ptr 0 0), (3, .ptr 1 0)], [(0, some ⟨[.bool false, .lst 0 []], true⟩), (1, some ⟨iz (nrm f.c ps.length), true⟩)], 2⟩) (fun _ => True) ?_ ?_
  · refine awp_sx prog_ok hP hnt [] [] [] [2, 3, 7, 8, 9] (by kernel_rfl) (G := fun K => K (St.mk [(2, V.ptr 0 0), (3, V.ptr 2 0), (7, V.d (rp ps)), (8, V.d (D.int IntKind.i64 (↑ps.length : Int))), (9, V.d (D.int IntKind.i64 (0 : Int)))] [(0, some (Blk.mk [D.bool false, D.lst 0 []] true)), (2, some (Blk.mk [D.bool (decide ((0 : Int) < (0 : Int))), du (dig (Int.natAbs (0 : Int)))] true))] 7)) (fun K => by kernel_rfl) ?_
    refine awp_block ?_
    refine awp_loop (ι := Nat) (fun k => ⟨[(2, .ptr 0 0), (3, .ptr 1 0), (7, .d (rp ps)), (8, .d (.int .i64 ps.length)), (9, .d (.int .i64 k))], [(0, some ⟨[.bool false, .lst 0 []], true⟩), (1, some ⟨iz (nrm f.c k), true⟩)], 2⟩)
      (fun k => k ≤ ps.length) (fun k => ps.length - k) 0 [(0, 0), (1, 2)] (by omega) ?_ ?_
    · (constructor <;> simp [hl, envOk, memOk, conv, St.get, St.blk, nrm, iz])
    intro k hk
    refine awp_sx prog_ok hP hnt [] [] [] [2, 3, 7, 8, 9, 10] (by kernel_rfl) (G := fun K => K (St.mk [(2, V.ptr 0 0), (3, V.ptr 1 0), (7, V.d (rp ps)), (8, V.d (D.int IntKind.i64 (↑ps.length : Int))), (9, V.d (D.int IntKind.i64 (↑k : Int))), (10, V.d (D.bool (decide ((↑k : Int) < (↑ps.length : Int)))))] [(0, some (Blk.mk [D.bool false, D.lst 0 []] true)), (1, some (Blk.mk [D.bool (decide (nrm f.c k < (0 : Int))), du (dig (nrm f.c k).natAbs)] true))] 3)) (fun K => by kernel_rfl) ?_
    refine awp_seq_k fun K1 hK1 => ?_
    refine awp_cond rfl (fun e => awp_skip (hK1 _ ?_)) (fun e => awp_exit ⟨(), [(0, 0), (1, 1)], trivial, ?_⟩)
    · simp at e
      obtain ⟨p, hp1⟩ := get_ex (l := ps) (i := k) e
      have hpo := hp.ok p (List.mem_of_getElem? hp1)
      have hfx : ival p.1 p.2 = f.c k := by rw [hf, pol_c, co_some hp1]; rfl
      have hm := imul_fn p.1 p.1 p.2 p.2 (by have := hpo.2; omega) (by have := hpo.2; omega) hpo.1 hpo.1
      rw [hfx] at hm
      have hsq : (f.c k * f.c k).natAbs < 2 ^ (KB + KB) := by
        rw [Int.natAbs_mul, Nat.pow_add]
        exact Nat.mul_lt_mul'' (hbits k) (hbits k)
      have ha := addI (hnb k hk) hsq (by omega) (by omega)
      refine awp_seq_k fun K2 hK2 => ?_
      refine awp_block ?_
      refine awp_sx prog_ok hP hnt [] [] [some (ic p.1 p.2)] [2, 3, 5, 7, 8, 9] (by kernel_rfl) (G := fun K => ((0 : Int) ≤ (↑k : Int) ∧ (↑k : Int) < (↑ps.length : Int) ∧ ((↑k : Int).toNat + 1) * 2 ≤ (rc ps).length) ∧ ((List.drop ((↑k : Int).toNat * 2) (rc ps))[0]? = some (D.bool p.fst) ∧ (List.drop ((↑k : Int).toNat * 2) (rc ps))[1]? = some (du p.snd)) ∧ 0 + (ic p.fst p.snd).length ≤ (TI.mk (Kind.struct [(0, 1), (1, 1)]) 2 32 [D.bool false, D.lst 0 []]).zero.length ∧ K (St.mk [(2, V.ptr 0 0), (3, V.ptr 1 0), (7, V.d (rp ps)), (8, V.d (D.int IntKind.i64 (↑ps.length : Int))), (9, V.d (D.int IntKind.i64 (↑k : Int))), (5, V.ptr 5 0)] [(0, some (Blk.mk [D.bool false, D.lst 0 []] true)), (1, some (Blk.mk [D.bool (decide (nrm f.c k < (0 : Int))), du (dig (nrm f.c k).natAbs)] true)), (5, some (Blk.mk [D.bool p.fst, du p.snd] true))] 7)) (fun K => by kernel_rfl) ?_
      refine ⟨⟨by omega, by omega, by simp; omega⟩, by rw [rc_drop0 hp1]; exact ⟨rfl, rfl⟩, by simp [ic], ?_⟩
      refine awp_x prog_ok hP hnt [] [.val (.agg (iz (f.c k * f.c k))), .val (.agg (iz (nrm f.c (k + 1))))] [some (iz (nrm f.c k)), some (ic p.1 p.2), some (ic p.1 p.2)] [2, 3, 7, 8, 9] (by kernel_rfl) (G := fun K => ([D.bool (decide (nrm f.c k < (0 : Int))), du (dig (nrm f.c k).natAbs)][0]? = some (D.bool (decide (nrm f.c k < (0 : Int)))) ∧ [D.bool (decide (nrm f.c k < (0 : Int))), du (dig (nrm f.c k).natAbs)][1]? = some (du (dig (nrm f.c k).natAbs))) ∧ ([D.bool p.fst, du p.snd][0]? = some (D.bool p.fst) ∧ [D.bool p.fst, du p.snd][1]? = some (du p.snd)) ∧ ([D.bool p.fst, du p.snd][0]? = some (D.bool p.fst) ∧ [D.bool p.fst, du p.snd][1]? = some (du p.snd)) ∧ Fn Try.prog 123 [V.agg [D.bool p.fst, du p.snd], V.agg [D.bool p.fst, du p.snd]] [] (V.agg [D.bool (decide (f.c k * f.c k < (0 : Int))), du (dig (f.c k * f.c k).natAbs)]) [] ∧ Fn Try.prog 96 [V.agg [D.bool (decide (nrm f.c k < (0 : Int))), du (dig (nrm f.c k).natAbs)], V.agg [D.bool (decide (f.c k * f.c k < (0 : Int))), du (dig (f.c k * f.c k).natAbs)]] [] (V.agg [D.bool (decide (nrm f.c (k + 1) < (0 : Int))), du (dig (nrm f.c (k + 1)).natAbs)]) [] ∧ 0 + (iz (nrm f.c (k + 1))).length ≤ [D.bool (decide (nrm f.c k < (0 : Int))), du (dig (nrm f.c k).natAbs)].length ∧ K (St.mk [(2, V.ptr 0 0), (3, V.ptr 1 0), (7, V.d (rp ps)), (8, V.d (D.int IntKind.i64 (↑ps.length : Int))), (9, V.d (D.int IntKind.i64 (↑k : Int)))] [(0, some (Blk.mk [D.bool false, D.lst 0 []] true)), (1, some (Blk.mk [D.bool (decide (nrm f.c (k + 1) < (0 : Int))), du (dig (nrm f.c (k + 1)).natAbs)] true)), (5, some (Blk.mk [D.bool p.fst, du p.snd] true))] 13)) (fun K => by kernel_rfl) ?_
      refine ⟨⟨rfl, rfl⟩, ⟨rfl, rfl⟩, ⟨rfl, rfl⟩, hm, ha, by simp [iz], hK2 _ ?_⟩
      refine awp_x prog_ok hP hnt [(18, .int .i64 (k + 1 : Nat))] [] [] [2, 3, 7, 8, 9] (by kernel_rfl) (G := fun K => IntKind.i64.wrap ((↑k : Int) + (1 : Int)) = (↑(k + 1) : Int) ∧ K (St.mk [(2, V.ptr 0 0), (3, V.ptr 1 0), (7, V.d (rp ps)), (8, V.d (D.int IntKind.i64 (↑ps.length : Int))), (9, V.d (D.int IntKind.i64 (↑(k + 1) : Int)))] [(0, some (Blk.mk [D.bool false, D.lst 0 []] true)), (1, some (Blk.mk [D.bool (decide (nrm f.c (k + 1) < (0 : Int))), du (dig (nrm f.c (k + 1)).natAbs)] true)), (5, some (Blk.mk [D.bool p.fst, du p.snd] true))] 15)) (fun K => by kernel_rfl) ?_
      refine ⟨by rw [w64] <;> omega, k + 1, [(0, 0), (1, 1)], ⟨by omega, by omega⟩, ?_⟩
      (constructor <;> simp [hl, envOk, memOk, conv, St.get, St.blk, iz])
    · simp at e
      have : k = ps.length := by omega
      subst this
      (constructor <;> simp [hl, envOk, memOk, conv, St.get, St.blk, iz])
  intro _ _
  refine awp_sx prog_ok hP hnt [] [] [some (iz (nrm f.c ps.length))] [2] (by kernel_rfl) (G := fun K => ((iz (nrm f.c ps.length))[0]? = some (D.bool (decide (nrm f.c ps.length < (0 : Int)))) ∧ (iz (nrm f.c ps.length))[1]? = some (du (dig (nrm f.c ps.length).natAbs))) ∧ 0 + (iz (nrm f.c ps.length)).length ≤ [D.bool false, D.lst 0 []].length ∧ K (St.mk [(2, V.ptr 0 0)] [(0, some (Blk.mk [D.bool (decide (nrm f.c ps.length < (0 : Int))), du (dig (nrm f.c ps.length).natAbs)] true)), (1, some (Blk.mk [D.bool (decide (nrm f.c ps.length < (0 : Int))), du (dig (nrm f.c ps.length).natAbs)] true))] 4)) (fun K => by kernel_rfl) ?_
  exact ⟨⟨rfl, rfl⟩, by simp [iz], awp_ret ⟨.inl rfl, retC (l := true) rfl rfl rfl rfl⟩⟩

theorem wideL_len (n : Nat) (m : Int) (l : List Int) : (wideL n m l).length ≤ n := by unfold wideL; simp; omega
theorem clip_abs {m : Int} (h : 0 ≤ m) (x : Int) : (clip m x).natAbs ≤ m.natAbs := by unfold clip; omega
theorem wideL_abs {n : Nat} {m : Int} (h : 0 ≤ m) {l : List Int} : ∀ z ∈ wideL n m l, z.natAbs ≤ m.natAbs := fun z hz => by
  unfold wideL at hz
  obtain ⟨x, _, rfl⟩ := List.mem_map.1 hz
  exact clip_abs h x
theorem wide_W {l : List Int} (hn : l.length ≤ 100) (hb : ∀ z ∈ l, z.natAbs ≤ 100000) : W 0 (cp (polL l)) := by
  have hB : Bz 17 l := fun z hz => by have := hb z hz; omega
  refine Lv.w ⟨Nat.le_trans (polL_sz _) (by omega), fun k => Nat.lt_of_lt_of_le (hB.getD k) ?_⟩
  exact Nat.le_trans (show 2 ^ 17 ≤ 4294967296 ^ 1 by decide) (Nat.pow_le_pow_right (by omega) (by omega))
theorem vars_polL (l : List Int) : vars (polL l) = (vr (fun k => l.getD k 0) l.length).1 := by
  unfold vars
  rw [← vr_more (n := (polL l).sz) (m := l.length) (polL_sz l) fun k hk => above hk]
  rfl
theorem norm_polL (l : List Int) : norm (polL l) = nrm (fun k => l.getD k 0) l.length := by
  unfold norm
  rw [← nrm_more (n := (polL l).sz) (m := l.length) (polL_sz l) fun k hk => above hk]
  rfl

theorem variations_fn (a : List Int) (ha : ∀ n ∈ a, -32768 ≤ n ∧ n ≤ 32767) : Fn Try.prog 9 [.d (.lst a.length (i16s a))] [] (.d (.bool true)) [] := by
  refine fn0 (nt := 22) (res := [.tmp 2]) Try.func9 rfl (by decide) rfl rfl rfl rfl ?_
  intro Cx hP hnt hl
  have hw := wide_fn a 12 40000 ha (by omega) (by omega)
  have hll := wideL_len 12 40000 a
  have hla := wideL_abs (n := 12) (m := 40000) (by omega) (l := a)
  obtain ⟨l, hl0⟩ : ∃ l, l = wideL 12 40000 a := ⟨_, rfl⟩
  rw [← hl0] at hw hll hla
  have hlb : ∀ z ∈ l, z.natAbs ≤ 100000 := fun z hz => by have := hla z hz; omega
  have h64 : In64 l := fun z hz => by have := hlb z hz; omega
  have hp := poly14_fn l (by omega) h64
  have hW := wide_W (l := l) (by omega) hlb
  have hv := varsP (by omega) hW
  have hnq := normsqP (by omega) hW
  rw [pol_cp, vars_polL] at hv
  rw [pol_cp, norm_polL] at hnq
  have hr := rvars_fn l (by omega) h64
  have hrn := rnorm_fn l (by omega) hlb
  obtain ⟨N, hN⟩ : ∃ N, N = nrm (fun k => l.getD k 0) l.length := ⟨_, rfl⟩
  obtain ⟨v, hv0⟩ : ∃ v, v = (vr (fun k => l.getD k 0) l.length).1 := ⟨_, rfl⟩
  have hNb : N.natAbs ≤ 100 * (100000 * 100000) := by
    rw [hN]
    refine Nat.le_trans (nrm_le (M := 100000) (fun k => ?_) _) (Nat.mul_le_mul_right _ (by omega))
    show (l.getD k 0).natAbs ≤ _
    rw [List.getD_eq_getElem?_getD]
    cases e : l[k]? with
    | none => simp
    | some z => exact hlb z (List.mem_of_getElem? e)
  rw [← hN] at hnq hrn
  rw [← hv0] at hv hr
  have his := is14_fn (decide (N < 0)) (dig N.natAbs) N (by have := dig_len (n := N.natAbs) (k := 2) (by omega); omega) (dig_lt _) (by omega) (by omega)
  rw [ival_iz, ← iz_ic, decide_eq_true rfl] at his
  refine awp_sx prog_ok hP hnt [] [] [] [0] (by kernel_rfl) (G := fun K => K (St.mk [(0, V.d (D.lst a.length (i16s a)))] [] 1)) (fun K => by kernel_rfl) ?_
  refine awp_seq_k fun K hK => ?_
  refine awp_sx prog_ok hP hnt [] [.val (.d (.bool true))] [] [0, 5] (by kernel_rfl) (G := fun K => Fn Try.prog 75 [] [] (V.d (D.bool true)) [] ∧ K (St.mk [(0, V.d (D.lst a.length (i16s a))), (5, V.d (D.bool !true))] [] 3)) (fun K => by kernel_rfl) ?_
  refine ⟨awake14_fn, awp_cond (b := false) rfl nofun fun _ => awp_skip (hK _ ?_)⟩
  refine awp_sx prog_ok hP hnt [] [.val (.d (.lst l.length (i64s l)))] [] [3] (by kernel_rfl) (G := fun K => Fn Try.prog 82 [V.d (D.lst a.length (i16s a)), V.d (D.int IntKind.i64 (12 : Int)), V.d (D.int IntKind.i64 (40000 : Int))] [] (V.d (D.lst l.length (i64s l))) [] ∧ K (St.mk [(3, V.d (D.lst l.length (i64s l)))] [] 6)) (fun K => by kernel_rfl) ?_
  refine ⟨hw, ?_⟩
  refine awp_sx prog_ok hP hnt [(13, .bool true)] [.val (.d (rp (cp (polL l)))), .val (.d (.int .i64 v)), .val (.d (.int .i64 v)), .val (.d (rp (cp (polL l)))), .val (.agg (iz N)), .val (.d (.int .i64 N)), .val (.d (.bool true))] [] [2] (by kernel_rfl) (G := fun K => Fn Try.prog 79 [V.d (D.lst l.length (i64s l))] [] (V.d (rp (cp (polL l)))) [] ∧ Fn Try.prog 78 [V.d (rp (cp (polL l)))] [] (V.d (D.int IntKind.i64 (↑v : Int))) [] ∧ Fn Try.prog 83 [V.d (D.lst l.length (i64s l))] [] (V.d (D.int IntKind.i64 (↑v : Int))) [] ∧ ((↑v : Int) == (↑v : Int)) = true ∧ Fn Try.prog 79 [V.d (D.lst l.length (i64s l))] [] (V.d (rp (cp (polL l)))) [] ∧ Fn Try.prog 85 [V.d (rp (cp (polL l)))] [] (V.agg [D.bool (decide (N < (0 : Int))), du (dig N.natAbs)]) [] ∧ Fn Try.prog 86 [V.d (D.lst l.length (i64s l))] [] (V.d (D.int IntKind.i64 N)) [] ∧ Fn Try.prog 84 [V.agg [D.bool (decide (N < (0 : Int))), du (dig N.natAbs)], V.d (D.int IntKind.i64 N)] [] (V.d (D.bool true)) [] ∧ K (St.mk [(2, V.d (D.bool true))] [] 21)) (fun K => by kernel_rfl) ?_
  exact ⟨hp, hv, hr, by simp, hp, hnq, hrn, his, awp_ret ⟨.inl rfl, retD rfl⟩⟩
end Go.Abs
