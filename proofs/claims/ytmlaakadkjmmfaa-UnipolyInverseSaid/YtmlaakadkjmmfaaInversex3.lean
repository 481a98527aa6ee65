import Derived.WalkKit
import Derived.Orders
import Derived.Below
import Derived.Laws.AppendOwn
import Derived.Calls
import Derived.OpenShut
import Derived.ChangeArms
import Derived.ChangeShapes
import Derived.WideShapes
import Derived.KernelRfl
import Derived.JoinedOf
import Derived.Scope
import Derived.ProofKit
import Derived.ShutString
import Derived.ChangeOld
import Derived.SizedLaws
import Derived.Test.YtmlaakadkjmmfaaProg
import Derived.Test.YtmlaakadkjmmfaaInversex0
import Derived.Test.YtmlaakadkjmmfaaInversex1
import Derived.Test.YtmlaakadkjmmfaaInversex2
/- Texts that the proof of UnipolyInverse leans on: what is told of the functions it reaches. -/
set_option linter.unusedVariables false
set_option linter.unusedSimpArgs false
namespace Go.Abs
open Go Go.Proofs
set_option maxRecDepth 100000

def i64s (l : List Int) : List D := l.map fun d => D.int .i64 d
@[simp] theorem i64s_len (l : List Int) : (i64s l).length = l.length := by simp [i64s]
@[simp] theorem i64s_get (l : List Int) (i : Nat) : (i64s l)[i]? = (l[i]?).map fun d => D.int .i64 d := by simp [i64s]
abbrev In64 (l : List Int) : Prop := ∀ d ∈ l, -9223372036854775808 ≤ d ∧ d ≤ 9223372036854775807
theorem riz_i64 {z : Int} (h : -9223372036854775808 ≤ z ∧ z ≤ 9223372036854775807) : RIok 2 (riz z) := riz_ok (by omega)

theorem uof_fn (l : List Int) (hn : l.length ≤ 2 ^ 40) (hl64 : In64 l) : Fn Try.prog 51 [.d (.lst l.length (i64s l))] [] (.d (rp (can (fun k => l.getD k 0) l.length))) [] := by
  refine fn0 (nt := 24) (res := [.tmp 2]) Try.func51 rfl (by decide) rfl rfl rfl rfl ?_
  intro C hP hnt hl
  obtain ⟨F, hF⟩ : ∃ F : Nat → Int, F = fun k => l.getD k 0 := ⟨_, rfl⟩
  rw [← hF]
  refine awp_sx prog_ok hP hnt [] [] [] [0] (by kernel_rfl) (G := fun K => K (St.mk [(0, V.d (D.lst l.length (i64s l)))] [] 1)) (fun K => by kernel_rfl) ?_
  refine awp_sx prog_ok hP hnt [] [] [] [0, 3] (by kernel_rfl) (G := fun K => ((↑l.length : Int) = (↑l.length : Int) ∧ (0 : Int) ≤ (↑l.length : Int) ∧ (↑l.length : Int) * (↑32 : Int) ≤ (2 : Int) ^ 47) ∧ K (St.mk [(0, V.d (D.lst l.length (i64s l))), (3, V.own 3 0 (↑l.length : Int).toNat 2)] [(3, some (Blk.mk (zeros (↑l.length : Int).toNat (TI.mk (Kind.struct [(0, 1), (1, 1)]) 2 32 [D.bool false, D.lst 0 []]).zero) true))] 5)) (fun K => by kernel_rfl) ?_
  refine ⟨by omega, ?_⟩
  refine awp_cut (ι := Unit) (fun _ => ⟨[(3, .own 0 0 l.length 2)], [(0, some ⟨rc (mz F l.length), true⟩)], 1⟩) (fun _ => True) ?_ ?_
  · refine awp_sx prog_ok hP hnt [] [] [] [3, 9, 10, 11] (by kernel_rfl) (G := fun K => K (St.mk [(3, V.own 3 0 (↑l.length : Int).toNat 2), (9, V.d (D.lst l.length (i64s l))), (10, V.d (D.int IntKind.i64 (↑l.length : Int))), (11, V.d (D.int IntKind.i64 (0 : Int)))] [(3, some (Blk.mk (zeros (↑l.length : Int).toNat (TI.mk (Kind.struct [(0, 1), (1, 1)]) 2 32 [D.bool false, D.lst 0 []]).zero) true))] 8)) (fun K => by kernel_rfl) ?_
    refine awp_block ?_
    refine awp_loop (ι := Nat) (fun i => ⟨[(3, .own 0 0 l.length 2), (9, .d (.lst l.length (i64s l))), (10, .d (.int .i64 l.length)), (11, .d (.int .i64 i))], [(0, some ⟨rc (mz (part F i) l.length), true⟩)], 1⟩)
      (fun i => i ≤ l.length) (fun i => l.length - i) 0 [(0, 3)] (by simp) ?_ ?_
    · constructor <;> simp [hl, envOk, memOk, conv, St.get, St.blk, zeros_rc, part_zero]
    intro i hi
    refine awp_sx prog_ok hP hnt [] [] [] [3, 9, 10, 11, 12] (by kernel_rfl) (G := fun K => K (St.mk [(3, V.own 0 0 l.length 2), (9, V.d (D.lst l.length (i64s l))), (10, V.d (D.int IntKind.i64 (↑l.length : Int))), (11, V.d (D.int IntKind.i64 (↑i : Int))), (12, V.d (D.bool (decide ((↑i : Int) < (↑l.length : Int)))))] [(0, some (Blk.mk (rc (mz (part F i) l.length)) true))] 2)) (fun K => by kernel_rfl) ?_
    refine awp_seq_k fun K1 hK1 => ?_
    refine awp_cond rfl (fun h => awp_skip (hK1 _ ?_)) (fun h => awp_exit ⟨(), [(0, 0)], trivial, ?_⟩)
    · simp at h
      obtain ⟨z, hz⟩ := get_ex (l := l) (i := i) (by omega)
      have hzF : F i = z := by rw [hF]; simp only; rw [List.getD_eq_getElem?_getD, hz]; rfl
      have hz64 := hl64 z (List.mem_of_getElem? hz)
      refine awp_seq_k fun K2 hK2 => ?_
      refine awp_block ?_
      refine awp_sx prog_ok hP hnt [] [] [some [.int .i64 z]] [3, 4, 5, 9, 10, 11] (by kernel_rfl) (G := fun K => ((0 : Int) ≤ (↑i : Int) ∧ (↑i : Int) < (↑l.length : Int) ∧ ((↑i : Int).toNat + 1) * 1 ≤ (i64s l).length) ∧ (List.drop ((↑i : Int).toNat * 1) (i64s l))[0]? = some (D.int IntKind.i64 z) ∧ K (St.mk [(3, V.own 0 0 l.length 2), (9, V.d (D.lst l.length (i64s l))), (10, V.d (D.int IntKind.i64 (↑l.length : Int))), (11, V.d (D.int IntKind.i64 (↑i : Int))), (4, V.d (D.int IntKind.i64 (↑i : Int))), (5, V.d (D.int IntKind.i64 z))] [(0, some (Blk.mk (rc (mz (part F i) l.length)) true))] 7)) (fun K => by kernel_rfl) ?_
      refine ⟨⟨by omega, by omega, by simp; omega⟩, by simp [hz], ?_⟩
      refine awp_x prog_ok hP hnt [] [.val (.agg (iz z))] [] [3, 9, 10, 11] (by kernel_rfl) (G := fun K => Fn Try.prog 74 [V.d (D.int IntKind.i64 z)] [] (V.agg [D.bool (decide (z < (0 : Int))), du (dig z.natAbs)]) [] ∧ ((0 : Int) ≤ (↑i : Int) ∧ (↑i : Int) < (↑l.length : Int)) ∧ 0 + (↑i : Int).toNat * 2 + (iz z).length ≤ (rc (mz (part F i) l.length)).length ∧ K (St.mk [(3, V.own 0 0 l.length 2), (9, V.d (D.lst l.length (i64s l))), (10, V.d (D.int IntKind.i64 (↑l.length : Int))), (11, V.d (D.int IntKind.i64 (↑i : Int)))] [(0, some (Blk.mk (setCells (rc (mz (part F i) l.length)) (0 + (↑i : Int).toNat * 2) (iz z)) true))] 13)) (fun K => by kernel_rfl) ?_
      have hsc := setCells_rc (mz (part F i) l.length) i (riz (F i))
      rw [part_set, ic_riz, hzF] at hsc
      refine ⟨iOf_fn z hz64.1 hz64.2, ⟨by omega, by omega⟩, ?_, hK2 _ ?_⟩
      · rw [rc_len, mz_len, Int.toNat_natCast, Nat.zero_add]; show i * 2 + 2 ≤ l.length * 2; omega
      refine awp_x prog_ok hP hnt [(21, .int .i64 (i + 1 : Nat))] [] [] [3, 9, 10, 11] (by kernel_rfl) (G := fun K => IntKind.i64.wrap ((↑i : Int) + (1 : Int)) = (↑(i + 1) : Int) ∧ K (St.mk [(3, V.own 0 0 l.length 2), (9, V.d (D.lst l.length (i64s l))), (10, V.d (D.int IntKind.i64 (↑l.length : Int))), (11, V.d (D.int IntKind.i64 (↑(i + 1) : Int)))] [(0, some (Blk.mk (setCells (rc (mz (part F i) l.length)) (0 + (↑i : Int).toNat * 2) (iz z)) true))] 15)) (fun K => by kernel_rfl) ?_
      refine ⟨by rw [w64] <;> omega, i + 1, [(0, 0)], ⟨by omega, by omega⟩, ?_⟩
      rw [Int.toNat_natCast, Nat.zero_add, hsc]
      constructor <;> simp [hl, envOk, memOk, conv, St.get, St.blk]
    · simp at h
      have : i = l.length := by omega
      subst this
      constructor <;> simp [hl, envOk, memOk, conv, St.get, St.blk, part_all]
  intro _ _
  have hpok : Pok 2 (mz F l.length) := fun p hp => by
    simp only [mz, List.mem_map] at hp
    obtain ⟨k, hk, rfl⟩ := hp
    refine riz_i64 ?_
    obtain ⟨z, hz⟩ := get_ex (l := l) (i := k) (by simpa using hk)
    rw [hF]; simp only; rw [List.getD_eq_getElem?_getD, hz]
    exact hl64 z (List.mem_of_getElem? hz)
  have ht := utrim_fn (mz F l.length) (by simp; omega) (pok_mono (by omega) hpok)
  rw [rtrim_mz] at ht
  refine awp_sx prog_ok hP hnt [] [.val (.d (rp (can F l.length)))] [] [2] (by kernel_rfl) (G := fun K => Fn Try.prog 161 [V.d (D.lst l.length (List.take (l.length * 2) (List.drop 0 (rc (mz F l.length)))))] [] (V.d (rp (can F l.length))) [] ∧ K (St.mk [(2, V.d (rp (can F l.length)))] [(0, some (Blk.mk (rc (mz F l.length)) false))] 4)) (fun K => by kernel_rfl) ?_
  refine ⟨?_, awp_ret ⟨.inl rfl, retD rfl⟩⟩
  rw [own_rp (by simp)]
  exact ht
end Go.Abs

set_option linter.unusedVariables false
set_option linter.unusedSimpArgs false
namespace Go.Abs
open Go Go.Proofs
set_option maxRecDepth 100000

def few (a b : Nat) (ps : List RI) : Bool := decide (ps.length ≤ a ∧ ∀ p ∈ ps, p.2.length ≤ b)

theorem few_fn (a b : Nat) (ps : List RI) (ha : a ≤ 2 ^ 40) (hb : b ≤ 2 ^ 40) : Fn Try.prog 39 [.d (.int .i64 a), .d (.int .i64 b), .d (rp ps)] [] (.d (.bool (few a b ps))) [] := by
  refine fn0 (nt := 26) (res := [.tmp 6]) Try.func39 rfl (by decide) rfl rfl rfl rfl ?_
  intro C hP hnt hl
  refine awp_sx prog_ok hP hnt [] [] [] [0, 1, 2] (by kernel_rfl) (G := fun K => K (St.mk [(0, V.d (D.int IntKind.i64 (↑a : Int))), (1, V.d (D.int IntKind.i64 (↑b : Int))), (2, V.d (rp ps))] [] 1)) (fun K => by kernel_rfl) ?_
  refine awp_seq_k fun K hK => ?_
  refine awp_sx prog_ok hP hnt [] [] [] [1, 2, 11] (by kernel_rfl) (G := fun K => K (St.mk [(1, V.d (D.int IntKind.i64 (↑b : Int))), (2, V.d (rp ps)), (11, V.d (D.bool (decide ((↑ps.length : Int) > (↑a : Int)))))] [] 5)) (fun K => by kernel_rfl) ?_
  refine awp_cond rfl (fun h => ?_) (fun h => awp_skip (hK _ ?_))
  · simp at h
    refine awp_sx prog_ok hP hnt [] [] [] [6] (by kernel_rfl) (G := fun K => K (St.mk [(6, V.d (D.bool false))] [] 6)) (fun K => by kernel_rfl) ?_
    refine awp_ret ⟨.inl rfl, retD ?_⟩
    rw [few, decide_eq_false (by omega)]; rfl
  simp at h
  refine awp_cut (ι := Unit) (fun _ => ⟨[], [], 0⟩) (fun _ => few a b ps = true) ?_ ?_
  · refine awp_sx prog_ok hP hnt [] [] [] [1, 2, 7] (by kernel_rfl) (G := fun K => K (St.mk [(1, V.d (D.int IntKind.i64 (↑b : Int))), (2, V.d (rp ps)), (7, V.d (D.int IntKind.i64 (0 : Int)))] [] 6)) (fun K => by kernel_rfl) ?_
    refine awp_block ?_
    refine awp_loop (ι := Nat) (fun i => ⟨[(1, .d (.int .i64 b)), (2, .d (rp ps)), (7, .d (.int .i64 i))], [], 0⟩)
      (fun i => i ≤ ps.length ∧ ∀ k p, k < i → ps[k]? = some p → p.2.length ≤ b) (fun i => ps.length - i) 0 [] (by simp) ?_ ?_
    · constructor <;> simp [hl, envOk, memOk, conv, St.get, St.blk]
    intro i ⟨hi, hall⟩
    refine awp_seq_k fun K1 hK1 => ?_
    refine awp_sx prog_ok hP hnt [] [] [] [1, 2, 7, 15] (by kernel_rfl) (G := fun K => K (St.mk [(1, V.d (D.int IntKind.i64 (↑b : Int))), (2, V.d (rp ps)), (7, V.d (D.int IntKind.i64 (↑i : Int))), (15, V.d (D.bool (decide ((↑i : Int) < (↑ps.length : Int)))))] [] 4)) (fun K => by kernel_rfl) ?_
    refine awp_cond rfl (fun h => awp_skip (hK1 _ ?_)) (fun h => awp_exit ⟨(), [], ?_, ?_⟩)
    · simp at h
      obtain ⟨p, hp1⟩ := get_ex (l := ps) (i := i) (by omega)
      refine awp_seq_k fun K2 hK2 => ?_
      refine awp_block ?_
      refine awp_sx prog_ok hP hnt [] [] [some [du p.2]] [1, 2, 7, 25] (by kernel_rfl) (G := fun K => ((0 : Int) ≤ (↑i : Int) ∧ (↑i : Int) < (↑ps.length : Int) ∧ ((↑i : Int).toNat + 1) * 2 ≤ (rc ps).length) ∧ (List.drop 1 (List.drop ((↑i : Int).toNat * 2) (rc ps)))[0]? = some (du p.snd) ∧ K (St.mk [(1, V.d (D.int IntKind.i64 (↑b : Int))), (2, V.d (rp ps)), (7, V.d (D.int IntKind.i64 (↑i : Int))), (25, V.d (D.bool (decide ((↑p.snd.length : Int) > (↑b : Int)))))] [] 12)) (fun K => by kernel_rfl) ?_
      refine ⟨⟨by omega, by omega, by simp; omega⟩, by rw [Int.toNat_natCast, rc_at hp1]; rfl, ?_⟩
      refine awp_cond rfl (fun h2 => ?_) (fun h2 => awp_skip (hK2 _ ?_))
      · simp at h2
        refine awp_sx prog_ok hP hnt [] [] [] [6] (by kernel_rfl) (G := fun K => K (St.mk [(6, V.d (D.bool false))] [] 13)) (fun K => by kernel_rfl) ?_
        refine awp_ret ⟨.inl rfl, retD ?_⟩
        rw [few, decide_eq_false (fun hh => by have := hh.2 p (List.mem_of_getElem? hp1); omega)]; rfl
      · simp at h2
        refine awp_x prog_ok hP hnt [(17, .int .i64 (i + 1 : Nat))] [] [] [1, 2, 7] (by kernel_rfl) (G := fun K => IntKind.i64.wrap ((↑i : Int) + (1 : Int)) = (↑(i + 1) : Int) ∧ K (St.mk [(1, V.d (D.int IntKind.i64 (↑b : Int))), (2, V.d (rp ps)), (7, V.d (D.int IntKind.i64 (↑(i + 1) : Int)))] [] 15)) (fun K => by kernel_rfl) ?_
        refine ⟨by rw [w64] <;> omega, i + 1, [], ⟨⟨by omega, fun k q hk hq => ?_⟩, by omega⟩, ?_⟩
        · by_cases e : k = i
          · subst e; rw [hp1] at hq; cases hq; exact h2
          · exact hall k q (by omega) hq
        constructor <;> simp [hl, envOk, memOk, conv, St.get, St.blk]
    · simp at h
      refine decide_eq_true ⟨by omega, fun p hp => ?_⟩
      obtain ⟨k, hk, e⟩ := List.getElem_of_mem hp
      exact hall k p (by omega) (by rw [← e]; simp [hk])
    · constructor <;> simp [hl, envOk, memOk, conv, St.get, St.blk]
  intro _ hf
  refine awp_sx prog_ok hP hnt [] [] [] [6] (by kernel_rfl) (G := fun K => K (St.mk [(6, V.d (D.bool true))] [] 1)) (fun K => by kernel_rfl) ?_
  refine awp_ret ⟨.inl rfl, retD ?_⟩
  rw [hf]; rfl
end Go.Abs

set_option linter.unusedVariables false
set_option linter.unusedSimpArgs false
namespace Go.Abs
open Go Go.Proofs
set_option maxRecDepth 100000

theorem can_11 : can (fun k => ([1, 1] : List Int).getD k 0) 2 = [riz 1, riz 1] := by
  simp [can, zdeg, mz, List.range_succ]
theorem can_1m : can (fun k => ([1, -1] : List Int).getD k 0) 2 = [riz 1, riz (-1)] := by
  simp [can, zdeg, mz, List.range_succ]
theorem can_awake : can (mulC (co [riz 1, riz 1]) (co [riz 1, riz (-1)]) 2) 4 = [riz 1, riz 0, riz (-1)] := by
  have c0 : co [riz 1, riz 1] 0 = 1 := rval_riz 1
  have c1 : co [riz 1, riz 1] 1 = 1 := rval_riz 1
  have d0 : co [riz 1, riz (-1)] 0 = 1 := rval_riz 1
  have d1 : co [riz 1, riz (-1)] 1 = -1 := rval_riz (-1)
  have d2 : co [riz 1, riz (-1)] 2 = 0 := rfl
  have d3 : co [riz 1, riz (-1)] 3 = 0 := rfl
  simp [can, zdeg, mz, mulC, List.range_succ, c0, c1, d0, d1, d2, d3]

theorem awake_fn : Fn Try.prog 38 [] [] (.d (.bool true)) [] := by
  refine fn0 (nt := 30) (res := [.tmp 0]) Try.func38 rfl (by decide) rfl rfl rfl rfl ?_
  intro C hP hnt hl
  have h1 := uof_fn [1, 1] (by simp) (by intro d hd; simp at hd; omega)
  have h2 := uof_fn [1, -1] (by simp) (by intro d hd; simp at hd; omega)
  have h3 := umul_fn 2 [riz 1, riz 1] [riz 1, riz (-1)] (by omega) (by simp) (by simp)
    (by intro p hp; simp at hp; subst hp; exact riz_i64 (by omega)) (by intro p hp; simp at hp; rcases hp with rfl | rfl <;> exact riz_i64 (by omega))
  have e1 : can (fun k => ([1, 1] : List Int).getD k 0) ([1, 1] : List Int).length = [riz 1, riz 1] := can_11
  have e2 : can (fun k => ([1, -1] : List Int).getD k 0) ([1, -1] : List Int).length = [riz 1, riz (-1)] := can_1m
  have e3 : can (mulC (co [riz 1, riz 1]) (co [riz 1, riz (-1)]) [riz 1, riz 1].length) ([riz 1, riz 1].length + [riz 1, riz (-1)].length) = [riz 1, riz 0, riz (-1)] := can_awake
  rw [e1] at h1
  rw [e2] at h2
  rw [e3] at h3
  refine awp_sx prog_ok hP hnt [] [] [] [] (by kernel_rfl) (G := fun K => K (St.mk [] [] 1)) (fun K => by kernel_rfl) ?_
  refine awp_sx prog_ok hP hnt [] [.val (.d (rp [riz 1, riz 1])), .val (.d (rp [riz 1, riz (-1)])), .val (.d (rp [riz 1, riz 0, riz (-1)]))] [] [1] (by kernel_rfl) (G := fun K => Fn Try.prog 51 [V.d (D.lst 2 [D.int IntKind.i64 (1 : Int), D.int IntKind.i64 (1 : Int)])] [] (V.d (rp [riz (1 : Int), riz (1 : Int)])) [] ∧ Fn Try.prog 51 [V.d (D.lst 2 [D.int IntKind.i64 (1 : Int), D.int IntKind.i64 (-1 : Int)])] [] (V.d (rp [riz (1 : Int), riz (-1 : Int)])) [] ∧ Fn Try.prog 44 [V.d (rp [riz (1 : Int), riz (1 : Int)]), V.d (rp [riz (1 : Int), riz (-1 : Int)])] [] (V.d (rp [riz (1 : Int), riz (0 : Int), riz (-1 : Int)])) [] ∧ K (St.mk [(1, V.d (rp [riz (1 : Int), riz (0 : Int), riz (-1 : Int)]))] [] 7)) (fun K => by kernel_rfl) ?_
  refine ⟨h1, h2, h3, ?_⟩
  have hm1 : RIok 2 (riz (-1)) := riz_i64 (by omega)
  have h0 : RIok 2 (riz 0) := riz_i64 (by omega)
  have hs := same_fn (riz (-1)).1 (riz (-1)).1 (riz (-1)).2 (riz (-1)).2 (Nat.le_trans hm1.2 (by omega)) (Nat.le_trans hm1.2 (by omega)) hm1.1 hm1.1
  rw [decide_eq_true rfl] at hs
  have hg := sign_fn (riz 0).1 (riz 0).2 (Nat.le_trans h0.2 (by omega)) h0.1
  rw [show ival (riz 0).1 (riz 0).2 = 0 from rval_riz 0] at hg
  refine awp_sx prog_ok hP hnt [(10, .bool true), (17, .bool true)] [.val (.agg (iz (-1))), .val (.d (.bool true)), .val (.d (.int .i64 0))] [some (iz (-1)), some (iz 0), some [.bool true]] [0] (by kernel_rfl) (G := fun K => ((↑[riz (1 : Int), riz (0 : Int), riz (-1 : Int)].length : Int) == (3 : Int)) = true ∧ ((0 : Int) ≤ (2 : Int) ∧ (2 : Int) < (↑[riz (1 : Int), riz (0 : Int), riz (-1 : Int)].length : Int) ∧ 6 ≤ (rc [riz (1 : Int), riz (0 : Int), riz (-1 : Int)]).length) ∧ ((List.drop 4 (rc [riz (1 : Int), riz (0 : Int), riz (-1 : Int)]))[0]? = some (D.bool (decide ((-1 : Int) < (0 : Int)))) ∧ (List.drop 4 (rc [riz (1 : Int), riz (0 : Int), riz (-1 : Int)]))[1]? = some (du (dig (-1 : Int).natAbs))) ∧ Fn Try.prog 74 [V.d (D.int IntKind.i64 (-1 : Int))] [] (V.agg [D.bool (decide ((-1 : Int) < (0 : Int))), du (dig (-1 : Int).natAbs)]) [] ∧ Fn Try.prog 122 [V.agg [D.bool (decide ((-1 : Int) < (0 : Int))), du (dig (-1 : Int).natAbs)], V.agg [D.bool (decide ((-1 : Int) < (0 : Int))), du (dig (-1 : Int).natAbs)]] [] (V.d (D.bool true)) [] ∧ true = true ∧ ((0 : Int) ≤ (1 : Int) ∧ (1 : Int) < (↑[riz (1 : Int), riz (0 : Int), riz (-1 : Int)].length : Int) ∧ 4 ≤ (rc [riz (1 : Int), riz (0 : Int), riz (-1 : Int)]).length) ∧ ((List.drop 2 (rc [riz (1 : Int), riz (0 : Int), riz (-1 : Int)]))[0]? = some (D.bool (decide ((0 : Int) < (0 : Int)))) ∧ (List.drop 2 (rc [riz (1 : Int), riz (0 : Int), riz (-1 : Int)]))[1]? = some (du (dig (Int.natAbs (0 : Int))))) ∧ Fn Try.prog 102 [V.agg [D.bool (decide ((0 : Int) < (0 : Int))), du (dig (Int.natAbs (0 : Int)))]] [] (V.d (D.int IntKind.i64 (0 : Int))) [] ∧ ((0 : Int) ≤ (2 : Int) ∧ (2 : Int) < (↑[riz (1 : Int), riz (0 : Int), riz (-1 : Int)].length : Int) ∧ 6 ≤ (rc [riz (1 : Int), riz (0 : Int), riz (-1 : Int)]).length) ∧ (List.drop 0 (List.drop 4 (rc [riz (1 : Int), riz (0 : Int), riz (-1 : Int)])))[0]? = some (D.bool true) ∧ K (St.mk [(0, V.d (D.bool true))] [] 31)) (fun K => by kernel_rfl) ?_
  exact ⟨rfl, ⟨by omega, by simp, by simp⟩, ⟨rfl, rfl⟩, iOf_fn (-1) (by omega) (by omega), hs, rfl, ⟨by omega, by simp, by simp⟩, ⟨rfl, rfl⟩, hg, ⟨by omega, by simp, by simp⟩, rfl, awp_ret ⟨.inl rfl, retD rfl⟩⟩
end Go.Abs

set_option linter.unusedVariables false
set_option linter.unusedSimpArgs false
namespace Go.Abs

/-! ### The Cauchy product of two sequences -/
def cv (f g : Nat → Int) : Nat → Int
  | 0 => f 0 * g 0
  | k + 1 => f 0 * g (k + 1) + cv (fun i => f (i + 1)) g k

theorem cv_right (f g : Nat → Int) (k : Nat) : cv f g (k + 1) = cv f (fun i => g (i + 1)) k + f (k + 1) * g 0 := by
  induction k generalizing f with
  | zero => simp only [cv]
  | succ k ih =>
    rw [cv, ih, cv]
    omega
theorem cv_comm (f g : Nat → Int) (k : Nat) : cv f g k = cv g f k := by
  induction k generalizing f g with
  | zero => simp only [cv]; exact Int.mul_comm _ _
  | succ k ih =>
    rw [cv, cv_right, ih, Int.mul_comm]; omega
end Go.Abs

set_option linter.unusedVariables false
set_option linter.unusedSimpArgs false
namespace Go.Abs
open Go Go.Proofs

theorem mulC_succ0 (f g : Nat → Int) (n : Nat) : mulC f g (n + 1) 0 = f 0 * g 0 := by
  induction n with
  | zero => simp [mulC]
  | succ n ih => rw [mulC, ih, if_neg (by omega)]; omega
theorem mulC_succ (f g : Nat → Int) (n k : Nat) : mulC f g (n + 1) (k + 1) = f 0 * g (k + 1) + mulC (fun i => f (i + 1)) g n k := by
  induction n with
  | zero => simp [mulC]
  | succ n ih =>
    rw [mulC, ih]
    simp only [mulC]
    rw [show k + 1 - (n + 1) = k - n by omega]
    by_cases h : n ≤ k
    · rw [if_pos (by omega), if_pos h]; omega
    · rw [if_neg (by omega), if_neg h]; omega
theorem cv_zero {f g : Nat → Int} (h : ∀ a, f a = 0) (k : Nat) : cv f g k = 0 := by
  induction k generalizing f with
  | zero => simp [cv, h]
  | succ k ih => rw [cv, ih (fun a => h _), h]; simp
theorem mulC_cv {f g : Nat → Int} {n : Nat} (h : ∀ a, n ≤ a → f a = 0) (k : Nat) : mulC f g n k = cv f g k := by
  induction k generalizing f n with
  | zero =>
    cases n with
    | zero => rw [cv_zero (fun a => h a (by omega))]; rfl
    | succ n => rw [mulC_succ0]; rfl
  | succ k ih =>
    cases n with
    | zero => rw [cv_zero (fun a => h a (by omega))]; rfl
    | succ n => rw [mulC_succ, cv, ih (fun a ha => h _ (by omega))]
end Go.Abs

set_option linter.unusedVariables false
set_option linter.unusedSimpArgs false
namespace Go.Abs
open Go Go.Proofs
set_option maxRecDepth 100000

/-- at most n coefficients of at most K digits -/
def Sz (n K : Nat) (ps : List RI) : Prop := ps.length ≤ n ∧ Pok K ps
theorem Sz.mono {n m K L : Nat} {ps : List RI} (h : Sz n K ps) (hn : n ≤ m) (hK : K ≤ L) : Sz m L ps := ⟨Nat.le_trans h.1 hn, pok_mono hK h.2⟩
theorem few_sz {a b : Nat} {ps : List RI} (hd : ∀ p ∈ ps, Dg p.2) (h : few a b ps = true) : Sz a b ps := by
  have := of_decide_eq_true h
  exact ⟨this.1, fun p hp => ⟨hd p hp, this.2 p hp⟩⟩
end Go.Abs

set_option linter.unusedVariables false
set_option linter.unusedSimpArgs false
namespace Go.Abs
open Go Go.Proofs
set_option maxRecDepth 100000

end Go.Abs

set_option linter.unusedVariables false
set_option linter.unusedSimpArgs false
namespace Go.Abs

/-! ### Polynomials in one variable with whole coefficients -/
structure Poly where
  c : Nat → Int
  fin : ∃ n, ∀ k, n ≤ k → c k = 0
namespace Poly

theorem ext_c {f g : Poly} (h : ∀ k, f.c k = g.c k) : f = g := by
  obtain ⟨a, ha⟩ := f
  obtain ⟨b, hb⟩ := g
  have : a = b := funext h
  subst this
  rfl

def evn (c : Nat → Int) : Nat → Int → Int
  | 0, _ => 0
  | n + 1, x => c 0 + x * evn (fun k => c (k + 1)) n x
theorem evn_van {x : Int} : ∀ {n : Nat} {c : Nat → Int}, (∀ k, k < n → c k = 0) → evn c n x = 0
  | 0, c, _ => rfl
  | n + 1, c, h => by
    rw [evn, h 0 (by omega), evn_van (fun k hk => h (k + 1) (by omega))]; simp
theorem evn_more {x : Int} : ∀ {n m : Nat} {c : Nat → Int}, n ≤ m → (∀ k, n ≤ k → c k = 0) → evn c m x = evn c n x
  | 0, m, c, _, h => evn_van fun k _ => h k (by omega)
  | n + 1, 0, c, hm, _ => by omega
  | n + 1, m + 1, c, hm, h => by
    rw [evn, evn, evn_more (n := n) (by omega) fun k hk => h (k + 1) (by omega)]
theorem evn_same {x : Int} {n m : Nat} {c : Nat → Int} (hn : ∀ k, n ≤ k → c k = 0) (hm : ∀ k, m ≤ k → c k = 0) : evn c n x = evn c m x := by
  rcases Nat.le_total n m with h | h
  · exact (evn_more h hn).symm
  · exact evn_more h hm
theorem evn_add {x : Int} : ∀ (n : Nat) (c d : Nat → Int), evn (fun k => c k + d k) n x = evn c n x + evn d n x
  | 0, c, d => rfl
  | n + 1, c, d => by rw [evn, evn, evn, evn_add n]; grind
theorem evn_scale {x a : Int} : ∀ (n : Nat) (c : Nat → Int), evn (fun k => a * c k) n x = a * evn c n x
  | 0, c => by simp [evn]
  | n + 1, c => by rw [evn, evn, evn_scale n]; grind
theorem evn_mul {x : Int} {m : Nat} {d : Nat → Int} (hd : ∀ k, m ≤ k → d k = 0) : ∀ (n : Nat) (c : Nat → Int), (∀ k, n ≤ k → c k = 0) → ∀ N, n + m ≤ N → evn (cv c d) N x = evn c n x * evn d m x
  | 0, c, hc, N, hN => by
    rw [evn_van (fun k _ => ?_)]
    · simp [evn]
    · have h0 : ∀ a, c a = 0 := fun a => hc a (by omega)
      clear hc
      induction k generalizing c with
      | zero => simp [cv, h0]
      | succ k ih => rw [cv, h0, ih _ (by omega) (fun a => h0 _)]; simp
  | n + 1, c, hc, 0, hN => by omega
  | n + 1, c, hc, N + 1, hN => by
    have ih := evn_mul (x := x) hd n (fun k => c (k + 1)) (fun k hk => hc _ (by omega)) N (by omega)
    have e : evn d m x = d 0 + x * evn (fun k => d (k + 1)) N x := by
      rw [← evn_more (m := N + 1) (by omega) hd, evn]
    rw [evn]
    have e2 : (fun k => cv c d (k + 1)) = fun k => c 0 * d (k + 1) + cv (fun i => c (i + 1)) d k := rfl
    have e3 := evn_add (x := x) N (fun k => c 0 * d (k + 1)) (cv (fun i => c (i + 1)) d)
    have e4 := evn_scale (x := x) (a := c 0) N (fun k => d (k + 1))
    rw [e2, e3, e4, ih, evn, e]
    simp only [cv]
    grind
theorem evn_inj : ∀ {n : Nat} {c : Nat → Int}, (∀ x : Int, 1 ≤ x → evn c n x = 0) → ∀ k, k < n → c k = 0
  | 0, c, _, k, hk => by omega
  | n + 1, c, h, k, hk => by
    have h0 : c 0 = 0 := by
      have := h (((c 0).natAbs : Nat) + 1) (by omega)
      rw [evn] at this
      have hd : (((c 0).natAbs : Nat) : Int) + 1 ∣ c 0 := ⟨-(evn (fun k => c (k + 1)) n (((c 0).natAbs : Nat) + 1)), by grind⟩
      by_cases e : c 0 = 0
      · exact e
      · have := Nat.le_of_dvd (by omega) (Int.natAbs_dvd_natAbs.2 hd); omega
    cases k with
    | zero => exact h0
    | succ k =>
      refine evn_inj (n := n) (c := fun k => c (k + 1)) (fun x hx => ?_) k (by omega)
      have := h x hx
      rw [evn, h0, Int.zero_add] at this
      rcases Int.mul_eq_zero.1 this with h1 | h1
      · omega
      · exact h1

/-- the value at a whole number -/
noncomputable def ev (f : Poly) (x : Int) : Int := evn f.c f.fin.choose x
theorem ev_eq {f : Poly} {n : Nat} (h : ∀ k, n ≤ k → f.c k = 0) (x : Int) : f.ev x = evn f.c n x := evn_same f.fin.choose_spec h
theorem ext_ev {f g : Poly} (h : ∀ x, 1 ≤ x → f.ev x = g.ev x) : f = g := by
  obtain ⟨n, hn⟩ := f.fin
  obtain ⟨m, hm⟩ := g.fin
  refine ext_c fun k => ?_
  have key := evn_inj (n := max n m + k + 1) (c := fun k => f.c k + (-1) * g.c k) (fun x hx => by
    rw [evn_add, evn_scale, ← ev_eq (f := f) (fun k hk => hn k (by omega)), ← ev_eq (f := g) (fun k hk => hm k (by omega)), h x hx]; omega) k (by omega)
  have key2 : f.c k + (-1) * g.c k = 0 := key
  omega

instance : Add Poly := ⟨fun f g => ⟨fun k => f.c k + g.c k, by
  obtain ⟨n, hn⟩ := f.fin
  obtain ⟨m, hm⟩ := g.fin
  exact ⟨max n m, fun k hk => by rw [hn k (by omega), hm k (by omega)]; rfl⟩⟩⟩
instance : Neg Poly := ⟨fun f => ⟨fun k => - f.c k, by
  obtain ⟨n, hn⟩ := f.fin
  exact ⟨n, fun k hk => by rw [hn k hk]; rfl⟩⟩⟩
instance : Sub Poly := ⟨fun f g => ⟨fun k => f.c k - g.c k, by
  obtain ⟨n, hn⟩ := f.fin
  obtain ⟨m, hm⟩ := g.fin
  exact ⟨max n m, fun k hk => by rw [hn k (by omega), hm k (by omega)]; rfl⟩⟩⟩
theorem cvz {c d : Nat → Int} (h : ∀ a, c a = 0) (k : Nat) : cv c d k = 0 := by
  induction k generalizing c with
  | zero => simp [cv, h]
  | succ k ih => rw [cv, ih (fun a => h _), h]; simp
theorem cv_fin {c d : Nat → Int} {n m : Nat} (hc : ∀ k, n ≤ k → c k = 0) (hd : ∀ k, m ≤ k → d k = 0) : ∀ k, n + m ≤ k + 1 → cv c d k = 0 := by
  intro k
  induction n generalizing c k with
  | zero =>
    intro _
    exact cvz (fun a => hc a (by omega)) k
  | succ n ih =>
    intro hk
    cases k with
    | zero =>
      rw [cv]
      by_cases e : m = 0
      · rw [hd 0 (by omega)]; simp
      · omega
    | succ k =>
      rw [cv, hd (k + 1) (by omega), ih (c := fun i => c (i + 1)) (fun j hj => hc _ (by omega)) k (by omega)]; simp
instance : Mul Poly := ⟨fun f g => ⟨cv f.c g.c, by
  obtain ⟨n, hn⟩ := f.fin
  obtain ⟨m, hm⟩ := g.fin
  exact ⟨n + m, fun k hk => cv_fin hn hm k (by omega)⟩⟩⟩
def C (a : Int) : Poly := ⟨fun k => if k = 0 then a else 0, 1, fun k hk => by simp; omega⟩
def X : Poly := ⟨fun k => if k = 1 then 1 else 0, 2, fun k hk => by simp; omega⟩
instance : OfNat Poly 0 := ⟨C 0⟩
instance : OfNat Poly 1 := ⟨C 1⟩
theorem add_c (f g : Poly) (k : Nat) : (f + g).c k = f.c k + g.c k := rfl
theorem sub_c (f g : Poly) (k : Nat) : (f - g).c k = f.c k - g.c k := rfl
theorem neg_c (f : Poly) (k : Nat) : (-f).c k = - f.c k := rfl
theorem mul_c (f g : Poly) (k : Nat) : (f * g).c k = cv f.c g.c k := rfl
theorem zero_c (k : Nat) : (0 : Poly).c k = 0 := by show (if k = 0 then (0 : Int) else 0) = 0; simp
theorem C_c (a : Int) (k : Nat) : (C a).c k = if k = 0 then a else 0 := rfl
@[simp] theorem ev_add (f g : Poly) (x : Int) : (f + g).ev x = f.ev x + g.ev x := by
  obtain ⟨n, hn⟩ := f.fin
  obtain ⟨m, hm⟩ := g.fin
  rw [ev_eq (f := f) (n := max n m) (fun k hk => hn k (by omega)), ev_eq (f := g) (n := max n m) (fun k hk => hm k (by omega)), ev_eq (f := f + g) (n := max n m) (fun k hk => by rw [add_c, hn k (by omega), hm k (by omega)]; rfl)]
  exact evn_add _ _ _
@[simp] theorem ev_neg (f : Poly) (x : Int) : (-f).ev x = - f.ev x := by
  obtain ⟨n, hn⟩ := f.fin
  rw [ev_eq (f := f) hn, ev_eq (f := -f) (n := n) (fun k hk => by rw [neg_c, hn k (by omega)]; rfl)]
  have := evn_scale (x := x) (a := -1) n f.c
  rw [show (fun k => -1 * f.c k) = (-f).c from funext fun k => by rw [neg_c]; omega] at this
  omega
@[simp] theorem ev_sub (f g : Poly) (x : Int) : (f - g).ev x = f.ev x - g.ev x := by
  have : f - g = f + -g := ext_c fun k => by rw [sub_c, add_c, neg_c]; omega
  rw [this, ev_add, ev_neg]; omega
@[simp] theorem ev_mul (f g : Poly) (x : Int) : (f * g).ev x = f.ev x * g.ev x := by
  obtain ⟨n, hn⟩ := f.fin
  obtain ⟨m, hm⟩ := g.fin
  rw [ev_eq hn, ev_eq hm, ev_eq (f := f * g) (n := n + m) (fun k hk => cv_fin hn hm k (by omega))]
  exact evn_mul hm n _ hn _ (Nat.le_refl _)
@[simp] theorem ev_C (a x : Int) : (C a).ev x = a := by
  rw [ev_eq (n := 1) (fun k hk => by rw [C_c, if_neg (by omega)])]
  simp [evn, C_c]
@[simp] theorem ev_zero (x : Int) : (0 : Poly).ev x = 0 := ev_C 0 x
@[simp] theorem ev_one (x : Int) : (1 : Poly).ev x = 1 := ev_C 1 x
@[simp] theorem ev_X (x : Int) : X.ev x = x := by
  rw [ev_eq (n := 2) (fun k hk => by show (if k = 1 then (1 : Int) else 0) = 0; rw [if_neg (by omega)])]
  simp [evn, X]

/-! ### Size: the number of coefficients up to the last that is not 0 -/
def top (c : Nat → Int) : Nat → Nat
  | 0 => 0
  | n + 1 => if c n = 0 then top c n else n + 1
theorem top_above {c : Nat → Int} : ∀ {n k : Nat}, (∀ j, n ≤ j → c j = 0) → top c n ≤ k → c k = 0
  | 0, k, h, _ => h k (by omega)
  | n + 1, k, h, hk => by
    unfold top at hk
    split at hk
    · rename_i h0
      refine top_above (n := n) (fun j hj => ?_) hk
      by_cases e : j = n
      · subst e; exact h0
      · exact h j (by omega)
    · exact h k (by omega)
theorem top_ne {c : Nat → Int} : ∀ {n : Nat}, 0 < top c n → c (top c n - 1) ≠ 0
  | 0, h => by simp [top] at h
  | n + 1, h => by
    unfold top at h ⊢
    split
    · rename_i e; rw [if_pos e] at h; exact top_ne h
    · rename_i e; simpa using e
noncomputable def sz (f : Poly) : Nat := top f.c f.fin.choose
theorem above {f : Poly} {k : Nat} (h : f.sz ≤ k) : f.c k = 0 := top_above f.fin.choose_spec h
theorem last {f : Poly} (h : 0 < f.sz) : f.c (f.sz - 1) ≠ 0 := top_ne h
theorem sz_le {f : Poly} {n : Nat} (h : ∀ k, n ≤ k → f.c k = 0) : f.sz ≤ n := by
  rcases Nat.lt_or_ge n f.sz with h1 | h1
  · exact absurd (h _ (by omega)) (last (by omega))
  · exact h1
theorem lt_sz {f : Poly} {n : Nat} (h : f.c n ≠ 0) : n < f.sz := by
  rcases Nat.lt_or_ge n f.sz with h1 | h1
  · exact h1
  · exact absurd (above h1) h
theorem sz_eq {f : Poly} {n : Nat} (h : f.c n ≠ 0) (h2 : ∀ k, n < k → f.c k = 0) : f.sz = n + 1 := by
  have := lt_sz h
  have := sz_le (f := f) (n := n + 1) (fun k hk => h2 k (by omega))
  omega
noncomputable def lc (f : Poly) : Int := f.c (f.sz - 1)
theorem sz_zero : (0 : Poly).sz = 0 := Nat.le_zero.1 (sz_le fun k _ => zero_c k)
theorem eq_zero {f : Poly} : f = 0 ↔ f.sz = 0 := ⟨fun h => by rw [h, sz_zero], fun h => ext_c fun k => by rw [zero_c]; exact above (by omega)⟩
theorem lc_ne {f : Poly} (h : f ≠ 0) : f.lc ≠ 0 := last (Nat.pos_of_ne_zero fun e => h (eq_zero.2 e))
theorem sz_pos {f : Poly} (h : f ≠ 0) : 0 < f.sz := Nat.pos_of_ne_zero fun e => h (eq_zero.2 e)
theorem cv_low {c d : Nat → Int} {n m : Nat} (hc : ∀ k, n < k → c k = 0) (hd : ∀ k, m < k → d k = 0) : cv c d (n + m) = c n * d m := by
  induction n generalizing c with
  | zero =>
    rw [Nat.zero_add]
    cases m with
    | zero => rfl
    | succ m => rw [cv, cvz (fun k => hc (k + 1) (by omega))]; omega
  | succ n ih =>
    rw [show n + 1 + m = (n + m) + 1 by omega, cv, hd (n + m + 1) (by omega), ih (c := fun i => c (i + 1)) (fun k hk => hc _ (by omega))]
    omega
theorem mul_top {f g : Poly} (hf : f ≠ 0) (hg : g ≠ 0) : (f * g).c (f.sz - 1 + (g.sz - 1)) = f.lc * g.lc :=
  cv_low (fun k hk => above (by have := sz_pos hf; omega)) (fun k hk => above (by have := sz_pos hg; omega))
theorem sz_mul {f g : Poly} (hf : f ≠ 0) (hg : g ≠ 0) : (f * g).sz = f.sz + g.sz - 1 := by
  have h1 := mul_top hf hg
  have a := sz_pos hf
  have b := sz_pos hg
  have h2 := sz_eq (f := f * g) (n := f.sz - 1 + (g.sz - 1)) (by rw [h1]; exact Int.mul_ne_zero (lc_ne hf) (lc_ne hg))
    (fun k hk => cv_fin (fun _ h => above h) (fun _ h => above h) k (by omega))
  omega
theorem mul_ne {f g : Poly} (hf : f ≠ 0) (hg : g ≠ 0) : f * g ≠ 0 := fun e => by
  have h := sz_mul hf hg
  have a := sz_pos hf
  have b := sz_pos hg
  rw [e, sz_zero] at h
  omega
theorem mul_eq_zero {f g : Poly} (h : f * g = 0) : f = 0 ∨ g = 0 := by
  by_cases hf : f = 0
  · exact .inl hf
  · by_cases hg : g = 0
    · exact .inr hg
    · exact absurd h (mul_ne hf hg)
theorem sz_C {a : Int} (h : a ≠ 0) : (C a).sz = 1 := sz_eq (n := 0) (by simpa [C_c] using h) (fun k hk => by rw [C_c, if_neg (by omega)])
theorem C_ne {a : Int} (h : a ≠ 0) : C a ≠ 0 := fun e => by have := sz_C h; rw [e, sz_zero] at this; omega
theorem sz_add (f g : Poly) : (f + g).sz ≤ max f.sz g.sz := sz_le fun k hk => by rw [add_c, above (by omega), above (by omega)]; rfl
theorem sz_sub (f g : Poly) : (f - g).sz ≤ max f.sz g.sz := sz_le fun k hk => by rw [sub_c, above (by omega), above (by omega)]; rfl
theorem Cmul_c (a : Int) (f : Poly) (k : Nat) : (C a * f).c k = a * f.c k := by
  rw [mul_c, cv_comm]
  cases k with
  | zero => simp [cv, C_c, Int.mul_comm]
  | succ k =>
    rw [cv_right]
    have : cv f.c (fun i => (C a).c (i + 1)) k = 0 := by
      rw [cv_comm]; exact cvz (fun i => by rw [C_c, if_neg (by omega)]) k
    rw [this, C_c, if_pos rfl, Int.mul_comm]; omega
end Poly
end Go.Abs

set_option linter.unusedVariables false
set_option linter.unusedSimpArgs false
namespace Go.Abs

theorem ncd {m : Nat} {z : Int} : (m : Int) ∣ z ↔ m ∣ z.natAbs := by rw [← Int.natAbs_dvd_natAbs, Int.natAbs_natCast]
/-! ### Primes -/
def Prm (p : Nat) : Prop := 2 ≤ p ∧ ∀ a b : Nat, p ∣ a * b → p ∣ a ∨ p ∣ b
theorem Prm.int {p : Nat} (hp : Prm p) {a b : Int} (h : (p : Int) ∣ a * b) : (p : Int) ∣ a ∨ (p : Int) ∣ b := by
  have := Int.natAbs_dvd_natAbs.2 h
  rw [Int.natAbs_mul, Int.natAbs_natCast] at this
  rcases hp.2 _ _ this with h1 | h1
  · exact .inl (ncd.2 h1)
  · exact .inr (ncd.2 h1)

namespace Poly
/-! ### Content -/
theorem first_not {Q : Nat → Prop} (h : ¬ ∀ k, Q k) : ∃ i, ¬ Q i ∧ ∀ k, k < i → Q k := by
  have h : ∃ i, ¬ Q i := Classical.byContradiction fun hc => h fun k => Classical.byContradiction fun hk => hc ⟨k, hk⟩
  obtain ⟨n, hn⟩ := h
  induction n using Nat.strongRecOn with
  | _ n ih =>
    by_cases hm : ∀ k, k < n → Q k
    · exact ⟨n, hn, hm⟩
    · have : ∃ k, k < n ∧ ¬ Q k := Classical.byContradiction fun hc => hm fun k hk => Classical.byContradiction fun h2 => hc ⟨k, hk, h2⟩
      obtain ⟨k, h1, h2⟩ := this
      exact ih k h1 h2
/-! ### Divisibility -/
/-- over the whole numbers -/
def Dv (g f : Poly) : Prop := ∃ q, f = q * g
/-- over the fractions -/
def Dq (g f : Poly) : Prop := ∃ a : Int, a ≠ 0 ∧ Dv g (C a * f)
theorem Dv.dq {f g : Poly} (h : Dv g f) : Dq g f := ⟨1, by decide, by
  obtain ⟨q, rfl⟩ := h
  exact ⟨q, ext_ev fun x _ => by simp⟩⟩
end Poly
end Go.Abs

set_option linter.unusedVariables false
set_option linter.unusedSimpArgs false
namespace Go.Abs
namespace Poly

theorem congr_ev {f g : Poly} (h : f = g) (x : Int) : f.ev x = g.ev x := by rw [h]
/-- X to a power -/
def Xp (n : Nat) : Poly := ⟨fun k => if k = n then 1 else 0, n + 1, fun k hk => by rw [if_neg (by omega)]⟩
theorem Xp_mul_c (n : Nat) (f : Poly) (k : Nat) : (Xp n * f).c k = if n ≤ k then f.c (k - n) else 0 := by
  rw [mul_c]
  have gen : ∀ (n k : Nat) (a : Nat → Int), (∀ j, a j = if j = n then 1 else 0) → cv a f.c k = if n ≤ k then f.c (k - n) else 0 := by
    intro n
    induction n with
    | zero =>
      intro k a ha
      cases k with
      | zero => rw [cv, ha]; simp
      | succ k => rw [cv, ha, cvz (fun j => by rw [ha, if_neg (by omega)])]; simp
    | succ n ih =>
      intro k a ha
      cases k with
      | zero => rw [cv, ha, if_neg (by omega), if_neg (by omega)]; simp
      | succ k =>
        rw [cv, ha, if_neg (by omega), ih k (fun i => a (i + 1)) (fun j => by rw [ha]; by_cases e : j = n <;> simp [e])]
        by_cases h : n ≤ k
        · rw [if_pos h, if_pos (by omega), show k + 1 - (n + 1) = k - n by omega]; simp
        · rw [if_neg h, if_neg (by omega)]; simp
  exact gen n k _ (fun j => rfl)
theorem sz_Cmul {a : Int} (h : a ≠ 0) (f : Poly) : (C a * f).sz = f.sz := by
  by_cases hf : f = 0
  · subst hf
    rw [show C a * (0 : Poly) = 0 from ext_ev fun x _ => by simp]
  · rw [sz_mul (C_ne h) hf, sz_C h]; omega
/-- one step down: the last coefficient goes -/
theorem step_down {f g : Poly} (hg : g ≠ 0) (h : g.sz ≤ f.sz) : (C g.lc * f - C f.lc * (Xp (f.sz - g.sz) * g)).sz < f.sz := by
  have hp := sz_pos hg
  have := sz_le (f := C g.lc * f - C f.lc * (Xp (f.sz - g.sz) * g)) (n := f.sz - 1) fun k hk => by
    rw [sub_c, Cmul_c, Cmul_c, Xp_mul_c]
    by_cases e : k = f.sz - 1
    · subst e
      rw [if_pos (by omega), show f.sz - 1 - (f.sz - g.sz) = g.sz - 1 by omega]
      show g.lc * f.lc - f.lc * g.lc = 0
      rw [Int.mul_comm]; omega
    · rw [above (f := f) (by omega)]
      by_cases h2 : f.sz - g.sz ≤ k
      · rw [if_pos h2, above (f := g) (by omega)]; simp
      · rw [if_neg h2]; simp
  omega
theorem pdiv (g : Poly) (hg : g ≠ 0) : ∀ (n : Nat) (f : Poly), f.sz ≤ n → ∃ (a : Int) (q r : Poly), a ≠ 0 ∧ C a * f = q * g + r ∧ r.sz < g.sz
  | 0, f, h => ⟨1, 0, f, by decide, ext_ev fun x _ => by simp, by have := sz_pos hg; omega⟩
  | n + 1, f, h => by
    by_cases hl : f.sz < g.sz
    · exact ⟨1, 0, f, by decide, ext_ev fun x _ => by simp, hl⟩
    have h1 := step_down hg (f := f) (by omega)
    obtain ⟨a, q, r, ha, he, hr⟩ := pdiv g hg n _ (Nat.le_of_lt_succ (Nat.lt_of_lt_of_le h1 h))
    refine ⟨a * g.lc, q + C (a * f.lc) * Xp (f.sz - g.sz), r, Int.mul_ne_zero ha (lc_ne hg), ext_ev fun x _ => ?_, hr⟩
    have := congr_ev he x
    simp at this ⊢
    grind

/-- a greatest common divisor over the fractions -/
structure Gq (f g d : Poly) : Prop where
  l : Dq d f
  r : Dq d g
  b : ∃ (u v : Poly) (a : Int), a ≠ 0 ∧ C a * d = u * f + v * g

theorem Dq.refl (f : Poly) : Dq f f := ⟨1, by decide, C 1, rfl⟩
theorem Dq.trans {f g h : Poly} (a : Dq f g) (b : Dq g h) : Dq f h := by
  obtain ⟨x, hx, p, hp⟩ := a
  obtain ⟨y, hy, q, hq⟩ := b
  refine ⟨x * y, Int.mul_ne_zero hx hy, q * p, ext_ev fun t _ => ?_⟩
  have h1 := congr_ev hp t
  have h2 := congr_ev hq t
  simp at h1 h2 ⊢
  grind
theorem Dq.zero (f : Poly) : Dq f 0 := ⟨1, by decide, 0, ext_ev fun x _ => by simp⟩
theorem Dq.add {d f g : Poly} (a : Dq d f) (b : Dq d g) : Dq d (f + g) := by
  obtain ⟨x, hx, p, hp⟩ := a
  obtain ⟨y, hy, q, hq⟩ := b
  refine ⟨x * y, Int.mul_ne_zero hx hy, C y * p + C x * q, ext_ev fun t _ => ?_⟩
  have h1 := congr_ev hp t
  have h2 := congr_ev hq t
  simp at h1 h2 ⊢
  grind
theorem Dq.mul {d f : Poly} (g : Poly) (a : Dq d f) : Dq d (g * f) := by
  obtain ⟨x, hx, p, hp⟩ := a
  refine ⟨x, hx, g * p, ext_ev fun t _ => ?_⟩
  have h1 := congr_ev hp t
  simp at h1 ⊢
  grind
theorem Dq.scale {d f : Poly} {a : Int} (ha : a ≠ 0) : Dq d (C a * f) ↔ Dq d f := by
  constructor
  · rintro ⟨x, hx, p, hp⟩
    refine ⟨x * a, Int.mul_ne_zero hx ha, p, ext_ev fun t _ => ?_⟩
    have h1 := congr_ev hp t
    simp at h1 ⊢
    grind
  · exact Dq.mul _
theorem Dq.scalel {d f : Poly} {a : Int} (ha : a ≠ 0) : Dq (C a * d) f ↔ Dq d f := by
  constructor
  · rintro ⟨x, hx, p, hp⟩
    refine ⟨x, hx, C a * p, ext_ev fun t _ => ?_⟩
    have h1 := congr_ev hp t
    simp at h1 ⊢
    grind
  · rintro ⟨x, hx, p, hp⟩
    refine ⟨x * a, Int.mul_ne_zero hx ha, p, ext_ev fun t _ => ?_⟩
    have h1 := congr_ev hp t
    simp at h1 ⊢
    grind
theorem Dq.sz {d f : Poly} (h : Dq d f) (hf : f ≠ 0) : d.sz ≤ f.sz := by
  obtain ⟨a, ha, q, hq⟩ := h
  have h1 : C a * f ≠ 0 := mul_ne (C_ne ha) hf
  have hq0 : q ≠ 0 := fun e => h1 (by rw [hq, e]; exact ext_ev fun x _ => by simp)
  have hd0 : d ≠ 0 := fun e => h1 (by rw [hq, e]; exact ext_ev fun x _ => by simp)
  have := sz_mul hq0 hd0
  rw [← hq, sz_Cmul ha] at this
  have := sz_pos hq0
  omega
theorem Gq.zero (f : Poly) : Gq f 0 f := ⟨Dq.refl f, Dq.zero f, 1, 0, 1, by decide, ext_ev fun x _ => by simp⟩
/-- a division's step -/
theorem Gq.step {f g q r d : Poly} {a b : Int} (ha : a ≠ 0) (hb : b ≠ 0) (e : C a * f = q * g + C b * r) (h : Gq g r d) : Gq f g d := by
  refine ⟨?_, h.l, ?_⟩
  · rw [← Dq.scale ha, e]
    exact (h.l.mul q).add (h.r.mul _)
  · obtain ⟨u, v, c, hc, hb2⟩ := h.b
    refine ⟨C a * v, C b * u - q * v, b * c, Int.mul_ne_zero hb hc, ext_ev fun x _ => ?_⟩
    have h1 := congr_ev e x
    have h2 := congr_ev hb2 x
    simp at h1 h2 ⊢
    grind
theorem Gq.scale {f g d : Poly} {a b c : Int} (ha : a ≠ 0) (hb : b ≠ 0) (hc : c ≠ 0) : Gq (C a * f) (C b * g) (C c * d) ↔ Gq f g d := by
  constructor
  · rintro ⟨h1, h2, u, v, x, hx, e⟩
    refine ⟨(Dq.scalel hc).1 ((Dq.scale ha).1 h1), (Dq.scalel hc).1 ((Dq.scale hb).1 h2), C a * u, C b * v, x * c, Int.mul_ne_zero hx hc, ext_ev fun t _ => ?_⟩
    have := congr_ev e t
    simp at this ⊢
    grind
  · rintro ⟨h1, h2, u, v, x, hx, e⟩
    refine ⟨(Dq.scalel hc).2 ((Dq.scale ha).2 h1), (Dq.scalel hc).2 ((Dq.scale hb).2 h2), C (c * b) * u, C (c * a) * v, x * a * b, Int.mul_ne_zero (Int.mul_ne_zero hx ha) hb, ext_ev fun t _ => ?_⟩
    have := congr_ev e t
    simp at this ⊢
    grind
theorem Gq.ex : ∀ (n : Nat) (f g : Poly), g.sz ≤ n → ∃ d, Gq f g d
  | 0, f, g, h => by
    have := eq_zero.2 (Nat.le_zero.1 h)
    subst this
    exact ⟨f, Gq.zero f⟩
  | n + 1, f, g, h => by
    by_cases hg : g = 0
    · subst hg; exact ⟨f, Gq.zero f⟩
    obtain ⟨a, q, r, ha, e, hr⟩ := pdiv g hg f.sz f (Nat.le_refl _)
    obtain ⟨d, hd⟩ := Gq.ex n g r (by omega)
    exact ⟨d, hd.step (q := q) ha (b := 1) (by decide) (by rw [e]; exact ext_ev fun x _ => by simp)⟩
end Poly
end Go.Abs

set_option linter.unusedVariables false
set_option linter.unusedSimpArgs false
namespace Go.Abs
open Poly

/-- a list of coefficients as a polynomial -/
def polL (l : List Int) : Poly := ⟨fun k => l.getD k 0, l.length, fun k hk => by rw [List.getD_eq_getElem?_getD, List.getElem?_eq_none hk]; rfl⟩
/-- the coefficients of a polynomial -/
noncomputable def cs (f : Poly) : List Int := (List.range f.sz).map f.c
theorem polL_c (l : List Int) (k : Nat) : (polL l).c k = l.getD k 0 := rfl
@[simp] theorem cs_len (f : Poly) : (cs f).length = f.sz := by simp [cs]
theorem cs_get (f : Poly) (k : Nat) (h : k < f.sz) : (cs f)[k]? = some (f.c k) := by simp [cs, h]
theorem cs_getD (f : Poly) (k : Nat) : (cs f).getD k 0 = f.c k := by
  rw [List.getD_eq_getElem?_getD]
  rcases Nat.lt_or_ge k f.sz with h | h
  · rw [cs_get f k h]; rfl
  · rw [List.getElem?_eq_none (by simpa using h), above h]; rfl
theorem polL_cs (f : Poly) : polL (cs f) = f := ext_c fun k => cs_getD f k
theorem polL_sz (l : List Int) : (polL l).sz ≤ l.length := sz_le fun k hk => by rw [polL_c, List.getD_eq_getElem?_getD, List.getElem?_eq_none hk]; rfl
theorem cut_cs {l : List Int} {n : Nat} (hn : n ≤ l.length) (hz : ∀ k x, n ≤ k → l[k]? = some x → x = 0) (ht : n = 0 ∨ ∃ x, l[n - 1]? = some x ∧ x ≠ 0) : l.take n = cs (polL l) := by
  have hs : (polL l).sz = n := by
    have h1 : (polL l).sz ≤ n := sz_le fun k hk => by
      rw [polL_c, List.getD_eq_getElem?_getD]
      cases e : l[k]? with
      | none => rfl
      | some x => exact hz k x hk e
    rcases ht with rfl | ⟨x, hx, h0⟩
    · omega
    · have := lt_sz (f := polL l) (n := n - 1) (by rw [polL_c, List.getD_eq_getElem?_getD, hx]; exact h0)
      omega
  apply List.ext_getElem?
  intro k
  rw [List.getElem?_take]
  by_cases hk : k < n
  · rw [if_pos hk, cs_get _ _ (by omega), polL_c, List.getD_eq_getElem?_getD]
    obtain ⟨x, hx⟩ : ∃ x, l[k]? = some x := ⟨l[k]'(by omega), by simp⟩
    rw [hx]; rfl
  · rw [if_neg hk, List.getElem?_eq_none (by simp; omega)]
theorem cs_of_last {l : List Int} (h : l = [] ∨ ∃ x, l[l.length - 1]? = some x ∧ x ≠ 0) : cs (polL l) = l := by
  have := cut_cs (l := l) (n := l.length) (Nat.le_refl _) (fun k x hk hx => by rw [List.getElem?_eq_none hk] at hx; cases hx) (by
    rcases h with rfl | h
    · left; rfl
    · exact .inr h)
  rw [← this, List.take_length]
theorem polL_nil : polL [] = 0 := ext_c fun k => by rw [zero_c]; simp [polL_c]
/-- small coefficients -/
abbrev Bz (K : Nat) (l : List Int) : Prop := ∀ z ∈ l, z.natAbs < 2 ^ K
theorem Bz.getD {K : Nat} {l : List Int} (h : Bz K l) (k : Nat) : (l.getD k 0).natAbs < 2 ^ K := by
  rw [List.getD_eq_getElem?_getD]
  cases e : l[k]? with
  | none => simp; exact Nat.pow_pos (by omega)
  | some x => exact h x (List.mem_of_getElem? e)
theorem Bz.cs {K : Nat} {f : Poly} (h : ∀ k, (f.c k).natAbs < 2 ^ K) : Bz K (cs f) := fun z hz => by
  simp only [Go.Abs.cs, List.mem_map] at hz
  obtain ⟨k, _, rfl⟩ := hz
  exact h k
theorem Bz.c {K : Nat} {f : Poly} (h : Bz K (Go.Abs.cs f)) (k : Nat) : (f.c k).natAbs < 2 ^ K := by rw [← cs_getD]; exact h.getD k
end Go.Abs

set_option linter.unusedVariables false
set_option linter.unusedSimpArgs false
namespace Go.Abs
open Go Go.Proofs
set_option maxRecDepth 100000

end Go.Abs

set_option linter.unusedVariables false
set_option linter.unusedSimpArgs false
namespace Go.Abs
open Go Go.Proofs
set_option maxRecDepth 100000

end Go.Abs

set_option linter.unusedVariables false
set_option linter.unusedSimpArgs false
namespace Go.Abs
section
variable {b : Nat}
end
/-- a table of a function -/
def tb {α : Type} (F : Nat → α) (n : Nat) : List α := (List.range n).map F
section
variable {α : Type} {F G : Nat → α} {n : Nat}
@[simp] theorem tb_len : (tb F n).length = n := by simp [tb]
end
end Go.Abs

set_option linter.unusedVariables false
set_option linter.unusedSimpArgs false
namespace Go.Abs
open Go Go.Proofs
set_option maxRecDepth 100000

end Go.Abs

set_option linter.unusedVariables false
set_option linter.unusedSimpArgs false
namespace Go.Abs
open Go Go.Proofs
set_option maxRecDepth 100000

end Go.Abs

set_option linter.unusedVariables false
set_option linter.unusedSimpArgs false
namespace Go.Abs
open Go Go.Proofs
set_option maxRecDepth 100000

end Go.Abs

set_option linter.unusedVariables false
set_option linter.unusedSimpArgs false
namespace Go.Abs
open Go Go.Proofs
set_option maxRecDepth 100000

theorem Bz.get {K : Nat} {l : List Int} (h : Bz K l) {i : Nat} {x : Int} (hx : l[i]? = some x) : x.natAbs < 2 ^ K := h x (List.mem_of_getElem? hx)
end Go.Abs

set_option linter.unusedVariables false
set_option linter.unusedSimpArgs false
namespace Go.Abs
open Go Go.Proofs Poly

/-- what raw coefficients say -/
def pol (ps : List RI) : Poly := ⟨co ps, ps.length, fun k hk => co_beyond hk⟩
/-- canonical coefficients -/
noncomputable def cp (f : Poly) : List RI := (cs f).map riz
theorem pol_c (ps : List RI) (k : Nat) : (pol ps).c k = co ps k := rfl
theorem pol_sz (ps : List RI) : (pol ps).sz ≤ ps.length := sz_le fun k hk => co_beyond hk
theorem cp_mz (f : Poly) : cp f = mz f.c f.sz := by unfold cp cs mz; rw [List.map_map]; rfl
@[simp] theorem cp_len (f : Poly) : (cp f).length = f.sz := by simp [cp]
theorem cp_get (f : Poly) {k : Nat} (h : k < f.sz) : (cp f)[k]? = some (riz (f.c k)) := by rw [cp_mz, mz_get h]
@[simp] theorem pol_cp (f : Poly) : pol (cp f) = f := ext_c fun k => by
  rw [pol_c]
  rcases Nat.lt_or_ge k f.sz with h | h
  · rw [co_some (cp_get f h), rval_riz]
  · rw [co_beyond (by simpa using h), above h]
theorem zdeg_sz {f : Poly} {n : Nat} (hn : f.sz ≤ n) : zdeg f.c n = f.sz := by
  rw [zdeg_more hn (fun k h _ => above h)]
  by_cases h : f.sz = 0
  · rw [h]; rfl
  · exact zdeg_stop (by omega) (last (by omega))
theorem can_eq {f : Poly} {F : Nat → Int} {n : Nat} (h : ∀ k, F k = f.c k) (hn : f.sz ≤ n) : can F n = cp f := by
  rw [cp_mz, can_ext (G := f.c) (fun k _ => h k), can, zdeg_sz hn]
theorem rtrim_lenp (ps : List RI) : (rtrim ps).length = (pol ps).sz := by
  rw [rtrim_len]; exact zdeg_sz (f := pol ps) (pol_sz ps)

/-- raw coefficients of bounded size -/
structure W (i : Nat) (ps : List RI) : Prop where
  len : ps.length ≤ 100 * 2 ^ i
  ok : Pok (40 * 4 ^ i) ps
/-- polynomials of bounded size -/
structure Lv (i : Nat) (f : Poly) : Prop where
  len : f.sz ≤ 100 * 2 ^ i
  ok : ∀ k, (f.c k).natAbs < 4294967296 ^ (40 * 4 ^ i)
theorem W.lv {i : Nat} {ps : List RI} (h : W i ps) : Lv i (pol ps) := ⟨Nat.le_trans (pol_sz ps) h.len, fun k => co_abs h.ok k⟩
theorem Lv.w {i : Nat} {f : Poly} (h : Lv i f) : W i (cp f) := ⟨by rw [cp_len]; exact h.len, by rw [cp_mz]; exact mz_ok h.ok⟩
theorem p2 {i j : Nat} (h : i ≤ j) : 2 ^ i ≤ 2 ^ j := Nat.pow_le_pow_right (by omega) h
theorem p4 {i j : Nat} (h : i ≤ j) : 4 ^ i ≤ 4 ^ j := Nat.pow_le_pow_right (by omega) h
theorem lim2 {i : Nat} (h : i ≤ 12) : 2 ^ i ≤ 4096 := Nat.le_trans (p2 h) (by decide)
theorem lim4 {i : Nat} (h : i ≤ 12) : 4 ^ i ≤ 16777216 := Nat.le_trans (p4 h) (by decide)
theorem pB {i j : Nat} (h : i ≤ j) : 4294967296 ^ (40 * 4 ^ i) ≤ 4294967296 ^ (40 * 4 ^ j) := Nat.pow_le_pow_right (by omega) (by have := p4 h; omega)
theorem W.mono {i j : Nat} {ps : List RI} (h : W i ps) (hij : i ≤ j) : W j ps := ⟨Nat.le_trans h.len (by have := p2 hij; omega), pok_mono (by have := p4 hij; omega) h.ok⟩
theorem Lv.mono {i j : Nat} {f : Poly} (h : Lv i f) (hij : i ≤ j) : Lv j f := ⟨Nat.le_trans h.len (by have := p2 hij; omega), fun k => Nat.lt_of_lt_of_le (h.ok k) (pB hij)⟩
theorem Lv.add {i : Nat} {f g : Poly} (hf : Lv i f) (hg : Lv i g) : Lv (i + 1) (f + g) := by
  refine ⟨?_, fun k => ?_⟩
  · have h1 := sz_add f g
    have := hf.len; have := hg.len
    rw [Nat.pow_succ]; omega
  · have := (add_small (hf.ok k) (hg.ok k)).1
    exact Nat.lt_of_lt_of_le this (Nat.pow_le_pow_right (by omega) (by rw [Nat.pow_succ]; have := Nat.pow_pos (n := i) (a := 4) (by omega); omega))
theorem Lv.sub {i : Nat} {f g : Poly} (hf : Lv i f) (hg : Lv i g) : Lv (i + 1) (f - g) := by
  refine ⟨?_, fun k => ?_⟩
  · have h1 := sz_sub f g
    have := hf.len; have := hg.len
    rw [Nat.pow_succ]; omega
  · have := (add_small (hf.ok k) (hg.ok k)).2
    exact Nat.lt_of_lt_of_le this (Nat.pow_le_pow_right (by omega) (by rw [Nat.pow_succ]; have := Nat.pow_pos (n := i) (a := 4) (by omega); omega))
theorem szmul_le (f g : Poly) : (f * g).sz ≤ f.sz + g.sz := sz_le fun k hk => cv_fin (fun _ h => above h) (fun _ h => above h) k (by omega)
theorem Lv.mul {i : Nat} {f g : Poly} (hi : i ≤ 12) (hf : Lv i f) (hg : Lv i g) : Lv (i + 1) (f * g) := by
  have h2 := lim2 hi
  refine ⟨?_, fun k => ?_⟩
  · have h1 := szmul_le f g
    have := hf.len; have := hg.len
    rw [Nat.pow_succ]; omega
  · have e : (f * g).c k = mulC f.c g.c f.sz k := by rw [mul_c, mulC_cv fun a ha => above ha]
    rw [e]
    have h3 := mulC_abs (fun a => Nat.le_of_lt (hf.ok a)) (fun a => Nat.le_of_lt (hg.ok a)) f.sz k
    have h4 := hf.len
    have h5 := mul_bound (i := f.sz) (K := 40 * 4 ^ i) (by omega) (Nat.le_refl _)
    refine Nat.lt_of_lt_of_le (Nat.lt_of_le_of_lt h3 h5) (Nat.pow_le_pow_right (by omega) ?_)
    rw [Nat.pow_succ]; have := Nat.pow_pos (n := i) (a := 4) (by omega); omega
/-- in bits -/
theorem Lv.bits {i : Nat} {f : Poly} (h : Lv i f) (k : Nat) : (f.c k).natAbs < 2 ^ (1280 * 4 ^ i) := by
  have := h.ok k
  rwa [show (4294967296 : Nat) = 2 ^ 32 by rfl, ← Nat.pow_mul, show 32 * (40 * 4 ^ i) = 1280 * 4 ^ i by omega] at this
theorem few_w {a b : Nat} {ps : List RI} (hd : ∀ p ∈ ps, Dg p.2) (h : few a b ps = true) (ha : a ≤ 100) (hb : b ≤ 40) : W 0 ps := by
  have := few_sz hd h
  exact ⟨Nat.le_trans this.1 (by omega), pok_mono (by omega) this.2⟩

noncomputable instance : DecidableEq Poly := fun a b => Classical.propDecidable (a = b)
/-! ### The program's polynomials -/
theorem sameP {i : Nat} {ps qs : List RI} (hi : i ≤ 12) (hp : W i ps) (hq : W i qs) : Fn Try.prog 49 [.d (rp ps), .d (rp qs)] [] (.d (.bool (decide (pol ps = pol qs)))) [] := by
  have h2 := lim2 hi
  have h4 := lim4 hi
  have := usame_fn ps qs (by have := hp.len; omega) (by have := hq.len; omega) (pok_mono (by omega) hp.ok) (pok_mono (by omega) hq.ok)
  rw [show (cmpP ps qs == 0) = decide (pol ps = pol qs) by
    rw [Bool.eq_iff_iff, beq_iff_eq, cmpP_zero, decide_eq_true_iff]
    exact ⟨fun h => ext_c h, fun h k => by rw [← pol_c, h]; rfl⟩] at this
  exact this
end Go.Abs

set_option linter.unusedVariables false
set_option linter.unusedSimpArgs false
namespace Go.Abs
open Go Go.Proofs
set_option maxRecDepth 100000

theorem rc_drop0 {ps : List RI} {i : Nat} {p : RI} (h : ps[i]? = some p) : (rc ps).drop (((i : Nat) : Int).toNat * 2) = .bool p.1 :: du p.2 :: rc (ps.drop (i + 1)) := by rw [Int.toNat_natCast]; exact rc_at h

theorem rtrim_cp (ps : List RI) (k : Nat) : (rtrim ps)[k]? = if k < (pol ps).sz then ps[k]? else none := by
  unfold rtrim
  rw [List.getElem?_take, ← rtrim_len, rtrim_lenp]
end Go.Abs

set_option linter.unusedVariables false
set_option linter.unusedSimpArgs false
namespace Go.Abs
open Go Go.Proofs
set_option maxRecDepth 100000

namespace Poly
noncomputable def ppow (f : Poly) : Nat → Poly
  | 0 => 1
  | n + 1 => ppow f n * f
@[simp] theorem ev_ppow (f : Poly) (x : Int) : ∀ n, (ppow f n).ev x = f.ev x ^ n
  | 0 => by simp [ppow]
  | n + 1 => by simp [ppow, ev_ppow f x n, Int.pow_succ]
end Poly
end Go.Abs

set_option linter.unusedVariables false
set_option linter.unusedSimpArgs false
namespace Go.Abs
open Go
variable {P : Program}

theorem RepV.own_ren {H : Array Obj} {ok : Nat → Prop} {β β' : Nat → Option Nat} {b b' o n sz : Nat} {v : Value} (e : β b = β' b') (h : RepV H ok β (.own b o n sz) v) : RepV H ok β' (.own b' o n sz) v := by
  simp only [RepV] at h ⊢
  obtain ⟨A, c, h1, h2, h3⟩ := h
  refine ⟨A, c, h1, h2, ?_⟩
  rcases h3 with h3 | ⟨B, arr, T, g1, g2, g3, g4⟩
  · exact .inl h3
  · exact .inr ⟨B, arr, T, g1, by rw [← e]; exact g2, g3, g4⟩

/-- a made block by another number -/
theorem Fn.out_ren {f : Nat} {args : List V} {o n sz : Nat} {k : Blk} (h : Fn P f args [] (.own 0 o n sz) [(0, k)]) (b : Nat) : Fn P f args [] (.own b o n sz) [(b, k)] := by
  refine ⟨h.1, fun w ok β vs hok hs hr hl hi => ?_⟩
  refine (h.2 w ok β vs hok hs hr (by simp) (by simp)).mono ?_
  rintro e w' ⟨v, ok', β', rfl, hc⟩
  refine ⟨v, ok', fun x => if x = b then β' 0 else none, rfl, hc.os, hc.tape, hc.output, hc.size, hc.keep, hc.shape, hc.lo, hc.hi, hc.lt, RepV.own_ren (by simp) hc.res, by simp, fun x kx hx => ?_, fun x y kx ky B hx hy _ _ => ?_⟩
  · simp at hx
    obtain ⟨rfl, rfl⟩ := hx
    simpa using hc.made 0 kx (by simp)
  · simp at hx hy
    rw [hx.1, hy.1]
/-- a lent block by another number -/
theorem Fn.lend_ren {f : Nat} {o n o' n' sz : Nat} {k k' : Blk} (h : Fn P f [.own 0 o n sz] [(0, k)] (.own 0 o' n' sz) [(0, k')]) (b : Nat) : Fn P f [.own b o n sz] [(b, k)] (.own b o' n' sz) [(b, k')] := by
  refine ⟨h.1, fun w ok β vs hok hs hr hl hi => ?_⟩
  have hr' : RepVs w.heap ok (fun x => if x = 0 then β b else none) [.own 0 o n sz] vs 0 := by
    simp only [RepVs] at hr ⊢
    obtain ⟨⟨u, h1, h2⟩, h3⟩ := hr
    exact ⟨⟨u, h1, RepV.own_ren (by simp) h2⟩, h3⟩
  refine (h.2 w ok (fun x => if x = 0 then β b else none) vs hok hs hr' (fun x kx hx => ?_) (fun x y kx ky B hx hy _ _ => ?_)).mono ?_
  · simp at hx
    obtain ⟨rfl, rfl⟩ := hx
    simpa using hl _ kx (by simp)
  · simp at hx hy
    rw [hx.1, hy.1]
  rintro e w' ⟨v, ok', β', rfl, hc⟩
  refine ⟨v, ok', fun x => if x = b then β' 0 else none, rfl, hc.os, hc.tape, hc.output, hc.size, fun j hj hn => hc.keep j hj fun x kx hx => ?_, hc.shape, hc.lo, fun j hj => ?_, hc.lt, RepV.own_ren (by simp) hc.res, fun x kx hx => ?_, fun x kx hx => ?_, fun x y kx ky B hx hy _ _ => ?_⟩
  · simp at hx
    obtain ⟨rfl, rfl⟩ := hx
    simpa using hn _ kx (by simp)
  · rcases hc.hi j hj with h1 | ⟨x, kx, hx, h1⟩ | h1
    · exact .inl h1
    · simp at hx
      obtain ⟨rfl, rfl⟩ := hx
      exact .inr (.inl ⟨b, kx, by simp, by simpa using h1⟩)
    · exact .inr (.inr h1)
  · simp at hx
    obtain ⟨rfl, rfl⟩ := hx
    simpa using hc.same 0 kx (by simp)
  · simp at hx
    obtain ⟨rfl, rfl⟩ := hx
    rcases hc.made 0 kx (by simp) with h1 | ⟨B, h1, h2, h3⟩
    · exact .inl (by simpa using h1)
    · refine .inr ⟨B, by simpa using h1, h2, ?_⟩
      rcases h3 with ⟨x, kx, hx, h3⟩ | h3
      · simp at hx
        obtain ⟨rfl, rfl⟩ := hx
        exact .inl ⟨_, _, List.mem_singleton.2 rfl, by simpa using h3⟩
      · exact .inr h3
  · simp at hx hy
    rw [hx.1, hy.1]
end Go.Abs

set_option linter.unusedVariables false
set_option linter.unusedSimpArgs false
namespace Go.Abs
open Go Go.Proofs
set_option maxRecDepth 100000

/-- trim of a row that is the call's own -/
theorem utrimO_fn (ps : List RI) (hn : ps.length ≤ 2 ^ 40) (hp : Pok (2 ^ 40) ps) (b : Nat) : Fn Try.prog 161 [.own b 0 ps.length 2] [(b, ⟨rc ps, true⟩)] (.own b 0 (zdeg (co ps) ps.length) 2) [(b, ⟨rc ps, true⟩)] := by
  refine Fn.lend_ren ?_ b
  refine fn_intro prog_ok (nx := 1) (res := [.tmp 2]) Try.func161 rfl (by decide) (by show 1 ≤ 24; omega) rfl (by simp) (by simp [V.refsL, V.refs]) ?_
  intro Cx hP hnt0 hl
  have hnt : Cx.nt = 24 := hnt0
  simp only [List.map_cons, List.map_nil] at hl ⊢
  have hle := zdeg_le (co ps) ps.length
  refine awp_sx prog_ok hP hnt [] [] [] [0] (by kernel_rfl) (G := fun K => K (St.mk [(0, V.own 0 0 ps.length 2)] [(0, some (Blk.mk (rc ps) true))] 2)) (fun K => by kernel_rfl) ?_
  refine awp_sx prog_ok hP hnt [] [] [] [0, 3] (by kernel_rfl) (G := fun K => K (St.mk [(0, V.own 0 0 ps.length 2), (3, V.d (D.int IntKind.i64 (↑ps.length : Int)))] [(0, some (Blk.mk (rc ps) true))] 5)) (fun K => by kernel_rfl) ?_
  refine awp_cut (ι := Unit) (fun _ => ⟨[(0, .own 0 0 ps.length 2), (3, .d (.int .i64 (zdeg (co ps) ps.length : Nat)))], [(0, some ⟨rc ps, true⟩)], 1⟩) (fun _ => True) ?_ ?_
  · refine awp_block ?_
    refine awp_loop (ι := Nat) (fun n => ⟨[(0, .own 0 0 ps.length 2), (3, .d (.int .i64 n))], [(0, some ⟨rc ps, true⟩)], 1⟩) (fun n => n ≤ ps.length ∧ zdeg (co ps) n = zdeg (co ps) ps.length) (fun n => n) ps.length [(0, 0)] ⟨Nat.le_refl _, rfl⟩ ?_ ?_
    · (constructor <;> simp [hl, envOk, memOk, conv, St.get, St.blk])
    intro n ⟨hn2, ht⟩
    refine awp_seq_k fun K2 hK2 => ?_
    by_cases h0 : n = 0
    · subst h0
      refine awp_sx prog_ok hP hnt [(8, .bool false)] [] [] [0, 3, 16] (by kernel_rfl) (G := fun K => decide ((↑0 : Int) > (0 : Int)) = false ∧ K (St.mk [(0, V.own 0 0 ps.length 2), (3, V.d (D.int IntKind.i64 (↑0 : Int))), (16, V.d (D.bool false))] [(0, some (Blk.mk (rc ps) true))] 12)) (fun K => by kernel_rfl) ?_
      refine ⟨rfl, awp_cond (b := false) rfl nofun fun _ => awp_exit ⟨(), [(0, 0)], trivial, ?_⟩⟩
      (constructor <;> simp [hl, envOk, memOk, conv, St.get, St.blk, ← ht, zdeg])
    · obtain ⟨q, hq⟩ := get_ex (l := ps) (i := n - 1) (by omega)
      obtain ⟨dq, lq⟩ := hp q (List.mem_of_getElem? hq)
      have hc := co_some hq
      have hz : val q.2 = 0 ↔ rval q = 0 := by unfold rval ival sgn; split <;> omega
      refine awp_sx prog_ok hP hnt [(8, .bool true), (11, .int .i64 (n - 1 : Nat))] [.val (.d (.bool (decide (val q.2 = 0))))] [some [du q.2]] [0, 3, 16] (by kernel_rfl) (G := fun K => decide ((↑n : Int) > (0 : Int)) = true ∧ IntKind.i64.wrap ((↑n : Int) - (1 : Int)) = (↑(n - 1) : Int) ∧ ((0 : Int) ≤ (↑(n - 1) : Int) ∧ (↑(n - 1) : Int) < (↑ps.length : Int)) ∧ (rc ps)[0 + (↑(n - 1) : Int).toNat * 2 + 1]? = some (du q.snd) ∧ Fn Try.prog 187 [V.d (du q.snd)] [] (V.d (D.bool (decide (val q.snd = 0)))) [] ∧ K (St.mk [(0, V.own 0 0 ps.length 2), (3, V.d (D.int IntKind.i64 (↑n : Int))), (16, V.d (D.bool (decide (val q.snd = 0))))] [(0, some (Blk.mk (rc ps) true))] 12)) (fun K => by kernel_rfl) ?_
      refine ⟨by simp; omega, by rw [w64] <;> omega, ⟨by omega, by omega⟩, by rw [Int.toNat_natCast, Nat.zero_add]; exact rc_get1 hq, isZero_fn q.2 (by omega) dq, ?_⟩
      refine awp_cond rfl (fun hb => awp_skip (hK2 _ ?_)) (fun hb => awp_exit ⟨(), [(0, 0)], trivial, ?_⟩)
      · simp at hb
        refine awp_block ?_
        refine awp_x prog_ok hP hnt [(18, .int .i64 (n - 1 : Nat))] [] [] [0, 3] (by kernel_rfl) (G := fun K => IntKind.i64.wrap ((↑n : Int) - (1 : Int)) = (↑(n - 1) : Int) ∧ K (St.mk [(0, V.own 0 0 ps.length 2), (3, V.d (D.int IntKind.i64 (↑(n - 1) : Int)))] [(0, some (Blk.mk (rc ps) true))] 15)) (fun K => by kernel_rfl) ?_
        refine ⟨by rw [w64] <;> omega, n - 1, [(0, 0)], ⟨⟨by omega, ?_⟩, by omega⟩, ?_⟩
        · rw [← ht]; exact (zdeg_zero (by omega) (by rw [hc]; exact hz.1 hb)).symm
        · (constructor <;> simp [hl, envOk, memOk, conv, St.get, St.blk])
      · simp at hb
        have hzs := zdeg_stop (f := co ps) (show 0 < n by omega) (by rw [hc]; exact fun e => hb (hz.2 e))
        (constructor <;> simp [hl, envOk, memOk, conv, St.get, St.blk, ← ht, hzs])
  · intro _ _
    refine awp_seq_k fun K hK => ?_
    refine awp_sx prog_ok hP hnt [] [] [] [0, 3, 20] (by kernel_rfl) (G := fun K => K (St.mk [(0, V.own 0 0 ps.length 2), (3, V.d (D.int IntKind.i64 (↑(zdeg (co ps) ps.length) : Int))), (20, V.d (D.bool ((↑(zdeg (co ps) ps.length) : Int) == (0 : Int))))] [(0, some (Blk.mk (rc ps) true))] 3)) (fun K => by kernel_rfl) ?_
    refine awp_cond rfl (fun hb => ?_) (fun hb => awp_skip (hK _ ?_))
    · refine awp_sx prog_ok hP hnt [] [] [] [2] (by kernel_rfl) (G := fun K => K (St.mk [(2, V.nil)] [(0, some (Blk.mk (rc ps) true))] 4)) (fun K => by kernel_rfl) ?_
      simp at hb
      rw [hb]
      refine awp_weak [(0, 0)] ⟨[(2, .own 0 0 0 2)], [(0, some ⟨rc ps, true⟩)], 1⟩ ?_ (awp_ret ⟨.inl rfl, .inl ⟨rfl, rfl, trivial⟩⟩)
      (constructor <;> simp [hl, envOk, memOk, conv, St.get, St.blk])
    · refine awp_sx prog_ok hP hnt [] [] [] [2] (by kernel_rfl) (G := fun K => ((0 : Int) ≤ (↑(zdeg (co ps) ps.length) : Int) ∧ (↑(zdeg (co ps) ps.length) : Int) ≤ (↑ps.length : Int)) ∧ K (St.mk [(2, V.own 0 0 (↑(zdeg (co ps) ps.length) : Int).toNat 2)] [(0, some (Blk.mk (rc ps) true))] 7)) (fun K => by kernel_rfl) ?_
      exact ⟨⟨by omega, by omega⟩, awp_ret ⟨.inl rfl, .inl ⟨rfl, rfl, trivial⟩⟩⟩

theorem fn0o {f : Nat} {fn : Func} {c : Code} {args : List V} {r : V} {out : List (Nat × Blk)} {res : List ResultVar} {nt : Nat}
    (hf : Try.prog.funcs[f]? = some fn) (hb : fn.body = some c) (hn : (fn.name == "runtime.NumGoroutine") = false) (hnt : fn.ntmps = nt) (hle : Nat.ble args.length nt = true) (hres : fn.results = res.toArray) (hrefs : V.refsL args = [])
    (h : ∀ C : Ctx, C.P = Try.prog → C.nt = nt → C.lids = [] → AWP C c ⟨envOf 0 args, [], 0⟩ (fun e s' => (e = .ret ∨ e = .normal) ∧ RetOk tab res r out s')) : Fn Try.prog f args [] r out :=
  fn_intro prog_ok hf hb hn (by rw [hnt]; exact Nat.le_of_ble_eq_true hle) hres (by simp) (by rw [hrefs]; simp) (fun C h1 h2 h3 => h C h1 (by rw [h2, hnt]) h3)

/-- the canonical form, as a row of the caller's own -/
theorem normO_fn (ps : List RI) (hn : ps.length ≤ 2 ^ 39) (hp : Pok (2 ^ 39) ps) (b : Nat) : Fn Try.prog 63 [.d (rp ps)] [] (.own b 0 (pol ps).sz 2) [(b, ⟨rc (cp (pol ps)), true⟩)] := by
  refine Fn.out_ren ?_ b
  refine fn0o (nt := 25) (res := [.tmp 2]) Try.func63 rfl (by decide) rfl rfl rfl rfl ?_
  intro Cx hP hnt hl
  obtain ⟨f, hf⟩ : ∃ f, f = pol ps := ⟨_, rfl⟩
  have hfs : f.sz ≤ ps.length := hf ▸ pol_sz ps
  have ht := utrim_fn ps (by omega) (pok_mono (by omega) hp)
  have htl : (rtrim ps).length = f.sz := by rw [rtrim_lenp, hf]
  rw [← hf]
  refine awp_sx prog_ok hP hnt [] [] [] [0] (by kernel_rfl) (G := fun K => K (St.mk [(0, V.d (rp ps))] [] 1)) (fun K => by kernel_rfl) ?_
  refine awp_sx prog_ok hP hnt [(7, .int .i64 f.sz)] [.val (.d (rp (rtrim ps)))] [] [0, 3] (by kernel_rfl) (G := fun K => Fn Try.prog 161 [V.d (rp ps)] [] (V.d (rp (rtrim ps))) [] ∧ (↑(rtrim ps).length : Int) = (↑f.sz : Int) ∧ ((↑f.sz : Int) = (↑f.sz : Int) ∧ (0 : Int) ≤ (↑f.sz : Int) ∧ (↑f.sz : Int) * (↑32 : Int) ≤ (2 : Int) ^ 47) ∧ K (St.mk [(0, V.d (rp ps)), (3, V.own 4 0 (↑f.sz : Int).toNat 2)] [(4, some (Blk.mk (zeros (↑f.sz : Int).toNat (TI.mk (Kind.struct [(0, 1), (1, 1)]) 2 32 [D.bool false, D.lst 0 []]).zero) true))] 6)) (fun K => by kernel_rfl) ?_
  refine ⟨ht, by rw [htl], by omega, ?_⟩
  refine awp_cut (ι := Unit) (fun _ => ⟨[(3, .own 0 0 f.sz 2)], [(0, some ⟨rc (mz f.c f.sz), true⟩)], 1⟩) (fun _ => True) ?_ ?_
  · refine awp_sx prog_ok hP hnt [] [] [] [0, 3, 10, 11] (by kernel_rfl) (G := fun K => K (St.mk [(0, V.d (rp ps)), (3, V.own 4 0 (↑f.sz : Int).toNat 2), (10, V.d (D.int IntKind.i64 (↑(↑f.sz : Int).toNat : Int))), (11, V.d (D.int IntKind.i64 (0 : Int)))] [(4, some (Blk.mk (zeros (↑f.sz : Int).toNat (TI.mk (Kind.struct [(0, 1), (1, 1)]) 2 32 [D.bool false, D.lst 0 []]).zero) true))] 9)) (fun K => by kernel_rfl) ?_
    refine awp_block ?_
    refine awp_loop (ι := Nat) (fun i => ⟨[(0, .d (rp ps)), (3, .own 0 0 f.sz 2), (10, .d (.int .i64 f.sz)), (11, .d (.int .i64 i))], [(0, some ⟨rc (mz (part f.c i) f.sz), true⟩)], 1⟩)
      (fun i => i ≤ f.sz) (fun i => f.sz - i) 0 [(0, 4)] (by simp) ?_ ?_
    · rw [Int.toNat_natCast]
      (constructor <;> simp [hl, envOk, memOk, conv, St.get, St.blk, zeros_rc, part_zero])
    intro i hi
    refine awp_sx prog_ok hP hnt [] [] [] [0, 3, 10, 11, 12] (by kernel_rfl) (G := fun K => K (St.mk [(0, V.d (rp ps)), (3, V.own 0 0 f.sz 2), (10, V.d (D.int IntKind.i64 (↑f.sz : Int))), (11, V.d (D.int IntKind.i64 (↑i : Int))), (12, V.d (D.bool (decide ((↑i : Int) < (↑f.sz : Int)))))] [(0, some (Blk.mk (rc (mz (part f.c i) f.sz)) true))] 2)) (fun K => by kernel_rfl) ?_
    refine awp_seq_k fun K1 hK1 => ?_
    refine awp_cond rfl (fun e => awp_skip (hK1 _ ?_)) (fun e => awp_exit ⟨(), [(0, 0)], trivial, ?_⟩)
    · simp at e
      obtain ⟨p, hp1⟩ := get_ex (l := ps) (i := i) (by omega)
      have hpo := hp p (List.mem_of_getElem? hp1)
      have hfx : ival p.1 p.2 = f.c i := by rw [hf, pol_c, co_some hp1]; rfl
      have h3 := inorm_fn p.1 p.2 (by have := hpo.2; omega) hpo.1
      rw [hfx] at h3
      refine awp_seq_k fun K2 hK2 => ?_
      refine awp_block ?_
      refine awp_sx prog_ok hP hnt [] [] [] [0, 3, 4, 10, 11] (by kernel_rfl) (G := fun K => K (St.mk [(0, V.d (rp ps)), (3, V.own 0 0 f.sz 2), (10, V.d (D.int IntKind.i64 (↑f.sz : Int))), (11, V.d (D.int IntKind.i64 (↑i : Int))), (4, V.d (D.int IntKind.i64 (↑i : Int)))] [(0, some (Blk.mk (rc (mz (part f.c i) f.sz)) true))] 4)) (fun K => by kernel_rfl) ?_
      refine awp_x prog_ok hP hnt [] [.val (.agg (iz (f.c i)))] [some [.bool p.1, du p.2]] [0, 3, 10, 11] (by kernel_rfl) (G := fun K => ((0 : Int) ≤ (↑i : Int) ∧ (↑i : Int) < (↑ps.length : Int) ∧ ((↑i : Int).toNat + 1) * 2 ≤ (rc ps).length) ∧ ((List.drop ((↑i : Int).toNat * 2) (rc ps))[0]? = some (D.bool p.fst) ∧ (List.drop ((↑i : Int).toNat * 2) (rc ps))[1]? = some (du p.snd)) ∧ Fn Try.prog 165 [V.agg [D.bool p.fst, du p.snd]] [] (V.agg [D.bool (decide (f.c i < (0 : Int))), du (dig (f.c i).natAbs)]) [] ∧ ((0 : Int) ≤ (↑i : Int) ∧ (↑i : Int) < (↑f.sz : Int)) ∧ 0 + (↑i : Int).toNat * 2 + (iz (f.c i)).length ≤ (rc (mz (part f.c i) f.sz)).length ∧ K (St.mk [(0, V.d (rp ps)), (3, V.own 0 0 f.sz 2), (10, V.d (D.int IntKind.i64 (↑f.sz : Int))), (11, V.d (D.int IntKind.i64 (↑i : Int)))] [(0, some (Blk.mk (setCells (rc (mz (part f.c i) f.sz)) (0 + (↑i : Int).toNat * 2) (iz (f.c i))) true))] 13)) (fun K => by kernel_rfl) ?_
      have hsc := setCells_rc (mz (part f.c i) f.sz) i (riz (f.c i))
      rw [part_set, ic_riz] at hsc
      refine ⟨⟨by omega, by omega, by simp; omega⟩, by rw [rc_drop0 hp1]; exact ⟨rfl, rfl⟩, h3, ⟨by omega, by omega⟩, ?_, hK2 _ ?_⟩
      · rw [rc_len, mz_len, Int.toNat_natCast, Nat.zero_add]; show i * 2 + 2 ≤ f.sz * 2; omega
      refine awp_x prog_ok hP hnt [(22, .int .i64 (i + 1 : Nat))] [] [] [0, 3, 10, 11] (by kernel_rfl) (G := fun K => IntKind.i64.wrap ((↑i : Int) + (1 : Int)) = (↑(i + 1) : Int) ∧ K (St.mk [(0, V.d (rp ps)), (3, V.own 0 0 f.sz 2), (10, V.d (D.int IntKind.i64 (↑f.sz : Int))), (11, V.d (D.int IntKind.i64 (↑(i + 1) : Int)))] [(0, some (Blk.mk (setCells (rc (mz (part f.c i) f.sz)) (0 + (↑i : Int).toNat * 2) (iz (f.c i))) true))] 15)) (fun K => by kernel_rfl) ?_
      refine ⟨by rw [w64] <;> omega, i + 1, [(0, 0)], ⟨by omega, by omega⟩, ?_⟩
      rw [Int.toNat_natCast, Nat.zero_add, hsc]
      (constructor <;> simp [hl, envOk, memOk, conv, St.get, St.blk])
    · simp at e
      have : i = f.sz := by omega
      subst this
      (constructor <;> simp [hl, envOk, memOk, conv, St.get, St.blk, part_all])
  intro _ _
  have hok : Pok (2 ^ 40) (mz f.c f.sz) := pok_mono (by omega) (mz_ok (K := 2 ^ 39) fun k => by rw [hf]; exact co_abs hp k)
  have ht2 := utrimO_fn (mz f.c f.sz) (by simp; omega) hok 0
  rw [zdeg_ext (G := f.c) (fun k hk => co_mz (by simpa using hk)), mz_len, zdeg_sz (Nat.le_refl _)] at ht2
  refine awp_sx prog_ok hP hnt [] [.lend (.own 0 0 f.sz 2) [rc (mz f.c f.sz)]] [] [2] (by kernel_rfl) (G := fun K => (Blk.mk (rc (mz f.c f.sz)) true).live = true ∧ Fn Try.prog 161 [V.own 0 0 f.sz 2] [(0, Blk.mk (rc (mz f.c f.sz)) true)] (V.own 0 0 f.sz 2) [(0, Blk.mk (rc (mz f.c f.sz)) true)] ∧ K (St.mk [(2, V.own 0 0 f.sz 2)] [(0, some (Blk.mk (rc (mz f.c f.sz)) true))] 4)) (fun K => by kernel_rfl) ?_
  refine ⟨rfl, ht2, awp_ret ⟨.inl rfl, .inl ⟨rfl, ?_, trivial⟩⟩⟩
  rw [cp_mz]; rfl

theorem trimW {i : Nat} {ps : List RI} (hi : i ≤ 12) (hp : W i ps) : Fn Try.prog 161 [.d (rp ps)] [] (.d (rp (rtrim ps))) [] :=
  utrim_fn ps (by have := hp.len; have := lim2 hi; omega) (pok_mono (by have := lim4 hi; omega) hp.ok)
end Go.Abs

set_option linter.unusedVariables false
set_option linter.unusedSimpArgs false
namespace Go.Abs
open Go Go.Proofs
set_option maxRecDepth 100000

end Go.Abs

set_option linter.unusedVariables false
set_option linter.unusedSimpArgs false
namespace Go.Abs
open Go Go.Proofs
set_option maxRecDepth 100000

theorem pow32 {K E : Nat} (h : K ≤ 32 * E) : 2 ^ K ≤ 4294967296 ^ E := by
  rw [show (4294967296 : Nat) = 2 ^ 32 by rfl, ← Nat.pow_mul]
  exact Nat.pow_le_pow_right (by omega) h
/-- the greatest absolute value -/
def mxa (F : Nat → Int) : Nat → Nat
  | 0 => 0
  | n + 1 => max (mxa F n) (F n).natAbs
/-- the height -/
noncomputable def hgt (f : Poly) : Nat := mxa f.c f.sz

end Go.Abs

set_option linter.unusedVariables false
set_option linter.unusedSimpArgs false
namespace Go.Abs
open Go Go.Proofs Poly

/-- at most n coefficients of at most K bits -/
structure Bd (n K : Nat) (f : Poly) : Prop where
  len : f.sz ≤ n
  ok : ∀ k, (f.c k).natAbs < 2 ^ K
theorem pw {a b : Nat} (h : a ≤ b) : 2 ^ a ≤ 2 ^ b := Nat.pow_le_pow_right (by omega) h
theorem Bd.mono {n m K L : Nat} {f : Poly} (h : Bd n K f) (hn : n ≤ m) (hK : K ≤ L) : Bd m L f := ⟨Nat.le_trans h.len hn, fun k => Nat.lt_of_lt_of_le (h.ok k) (pw hK)⟩
theorem Bd.lv {n K i : Nat} {f : Poly} (h : Bd n K f) (hn : n ≤ 100 * 2 ^ i) (hK : K ≤ 1280 * 4 ^ i) : Lv i f := ⟨Nat.le_trans h.len hn, fun k => by
  rw [show (4294967296 : Nat) = 2 ^ 32 by rfl, ← Nat.pow_mul, show 32 * (40 * 4 ^ i) = 1280 * 4 ^ i by omega]
  exact Nat.lt_of_lt_of_le (h.ok k) (pw hK)⟩
theorem Bd.add {n m K L : Nat} {f g : Poly} (hf : Bd n K f) (hg : Bd m L g) : Bd (max n m) (max K L + 1) (f + g) := by
  refine ⟨Nat.le_trans (sz_add _ _) (by have := hf.len; have := hg.len; omega), fun k => ?_⟩
  have h1 := (hf.mono (Nat.le_refl _) (Nat.le_max_left K L)).ok k
  have h2 := (hg.mono (Nat.le_refl _) (Nat.le_max_right K L)).ok k
  rw [add_c, Nat.pow_succ]
  have := Int.natAbs_add_le (f.c k) (g.c k)
  omega
theorem Bd.sub {n m K L : Nat} {f g : Poly} (hf : Bd n K f) (hg : Bd m L g) : Bd (max n m) (max K L + 1) (f - g) := by
  refine ⟨Nat.le_trans (sz_sub _ _) (by have := hf.len; have := hg.len; omega), fun k => ?_⟩
  have h1 := (hf.mono (Nat.le_refl _) (Nat.le_max_left K L)).ok k
  have h2 := (hg.mono (Nat.le_refl _) (Nat.le_max_right K L)).ok k
  rw [sub_c, Nat.pow_succ]
  have := Int.natAbs_sub_le (f.c k) (g.c k)
  omega
theorem mul_lt2 {x y K L : Nat} (hx : x < 2 ^ K) (hy : y < 2 ^ L) : x * y < 2 ^ (K + L) := by
  rw [Nat.pow_add]
  exact Nat.lt_of_le_of_lt (Nat.mul_le_mul_left _ (Nat.le_of_lt hy)) (Nat.mul_lt_mul_of_pos_right hx (Nat.pow_pos (by omega)))
theorem cv_bound {c d : Nat → Int} {A B : Nat} (hc : ∀ k, (c k).natAbs ≤ A) (hd : ∀ k, (d k).natAbs ≤ B) {n : Nat} (hz : ∀ k, n ≤ k → c k = 0) (k : Nat) : (cv c d k).natAbs ≤ n * (A * B) := by
  induction k generalizing c n with
  | zero =>
    rw [cv, Int.natAbs_mul]
    cases n with
    | zero => rw [hz 0 (by omega)]; simp
    | succ n =>
      have := Nat.mul_le_mul (hc 0) (hd 0)
      rw [Nat.succ_mul]; omega
  | succ k ih =>
    rw [cv]
    cases n with
    | zero => rw [hz 0 (by omega), cvz (fun a => hz _ (by omega))]; simp
    | succ n =>
      have h1 := ih (c := fun i => c (i + 1)) (n := n) (fun j => hc _) (fun j hj => hz _ (by omega))
      have h2 : (c 0 * d (k + 1)).natAbs ≤ A * B := by rw [Int.natAbs_mul]; exact Nat.mul_le_mul (hc 0) (hd _)
      have := Int.natAbs_add_le (c 0 * d (k + 1)) (cv (fun i => c (i + 1)) d k)
      rw [Nat.succ_mul]; omega
theorem Bd.mul {n m K L s : Nat} {f g : Poly} (hf : Bd n K f) (hg : Bd m L g) (hs : n < 2 ^ s) : Bd (n + m) (K + L + s) (f * g) := by
  refine ⟨Nat.le_trans (szmul_le _ _) (Nat.add_le_add hf.len hg.len), fun k => ?_⟩
  rw [mul_c]
  have h1 := cv_bound (fun k => Nat.le_of_lt (hf.ok k)) (fun k => Nat.le_of_lt (hg.ok k)) (n := f.sz) (fun k hk => above hk) k
  have h2 : f.sz * (2 ^ K * 2 ^ L) ≤ n * (2 ^ K * 2 ^ L) := Nat.mul_le_mul_right _ hf.len
  have h3 : n * (2 ^ K * 2 ^ L) < 2 ^ s * (2 ^ K * 2 ^ L) := Nat.mul_lt_mul_of_pos_right hs (Nat.mul_pos (Nat.pow_pos (by omega)) (Nat.pow_pos (by omega)))
  rw [Nat.pow_add, Nat.pow_add, Nat.mul_comm (2 ^ K * 2 ^ L)]
  omega
theorem Bd.zero {n K : Nat} : Bd n K 0 := ⟨by rw [sz_zero]; omega, fun k => by rw [zero_c]; exact Nat.pow_pos (by omega)⟩
theorem Bd.one {n K : Nat} (hn : 1 ≤ n) (hK : 1 ≤ K) : Bd n K 1 := ⟨by rw [show (1 : Poly) = C 1 from rfl, sz_C (by decide)]; exact hn, fun k => by
  show (if k = 0 then (1 : Int) else 0).natAbs < _
  have := pw hK
  split
  · simp at this ⊢; omega
  · exact Nat.pow_pos (by omega)⟩

theorem ev_polL_nil (x : Int) : (polL []).ev x = 0 := by rw [polL_nil]; simp
theorem ev_polL_cons (a : Int) (l : List Int) (x : Int) : (polL (a :: l)).ev x = a + x * (polL l).ev x := by
  rw [ev_eq (f := polL (a :: l)) (n := l.length + 1) (fun k hk => by rw [polL_c, List.getD_eq_getElem?_getD, List.getElem?_eq_none (by simpa using hk)]; rfl),
    ev_eq (f := polL l) (n := l.length) (fun k hk => by rw [polL_c, List.getD_eq_getElem?_getD, List.getElem?_eq_none hk]; rfl), evn]
  rfl
theorem ev_polL_app (l m : List Int) (x : Int) : (polL (l ++ m)).ev x = (polL l).ev x + x ^ l.length * (polL m).ev x := by
  induction l with
  | nil => simp [ev_polL_nil]
  | cons a l ih => rw [List.cons_append, ev_polL_cons, ev_polL_cons, ih, List.length_cons, Int.pow_succ]; grind
theorem ev_cs (f : Poly) (x : Int) : (polL (cs f)).ev x = f.ev x := by rw [polL_cs]
theorem drop_cons {l : List Int} {i : Nat} (h : i < l.length) : l.drop i = l.getD i 0 :: l.drop (i + 1) := by
  rw [List.drop_eq_getElem_cons h]; simp [h]
theorem take_snoc {l : List Int} {i : Nat} (h : i < l.length) : l.take (i + 1) = l.take i ++ [l.getD i 0] := by
  rw [List.take_add_one]; simp [h]
/-- the composition -/
noncomputable def compL (g : Poly) : List Int → Poly
  | [] => 0
  | a :: l => C a + g * compL g l
noncomputable def comp (f g : Poly) : Poly := compL g (cs f)
@[simp] theorem ev_compL (g : Poly) (x : Int) : ∀ l, (compL g l).ev x = (polL l).ev (g.ev x)
  | [] => by rw [ev_polL_nil]; simp [compL]
  | a :: l => by rw [ev_polL_cons]; simp [compL, ev_compL g x l]
@[simp] theorem ev_comp (f g : Poly) (x : Int) : (comp f g).ev x = f.ev (g.ev x) := by rw [comp, ev_compL, ev_cs]
/-- scaled argument -/
def strP (f : Poly) (c : Int) : Poly := ⟨fun k => f.c k * c ^ k, f.sz, fun k hk => by rw [above hk]; simp⟩
theorem strP_c (f : Poly) (c : Int) (k : Nat) : (strP f c).c k = f.c k * c ^ k := rfl
theorem evn_str {x c : Int} : ∀ (n : Nat) (F : Nat → Int) (d : Int), evn (fun k => F k * (d * c ^ k)) n x = d * evn F n (c * x)
  | 0, F, d => by simp [evn]
  | n + 1, F, d => by
    have h := evn_str (x := x) (c := c) n (fun k => F (k + 1)) (d * c)
    rw [evn, evn]
    have e : (fun k => F (k + 1) * (d * c ^ (k + 1))) = fun k => F (k + 1) * (d * c * c ^ k) := funext fun k => by rw [Int.pow_succ]; grind
    rw [e, h]; simp; grind
@[simp] theorem ev_strP (f : Poly) (c x : Int) : (strP f c).ev x = f.ev (c * x) := by
  rw [ev_eq (f := strP f c) (n := f.sz) (fun k hk => by rw [strP_c, above hk]; simp), ev_eq (f := f) (n := f.sz) (fun k hk => above hk)]
  have := evn_str (x := x) (c := c) f.sz f.c 1
  rw [Int.one_mul] at this
  rw [← this]
  congr 1
  exact funext fun k => by rw [strP_c, Int.one_mul]
/-- reversed coefficients -/
def revP (f : Poly) (n : Nat) : Poly := ⟨fun k => if k < n then f.c (n - 1 - k) else 0, n, fun k hk => by rw [if_neg (by omega)]⟩
theorem revP_c (f : Poly) (n k : Nat) : (revP f n).c k = if k < n then f.c (n - 1 - k) else 0 := rfl
/-- canonical coefficients of a list -/
def ro (l : List Int) : List RI := l.map riz
@[simp] theorem ro_len (l : List Int) : (ro l).length = l.length := by simp [ro]
theorem ro_get {l : List Int} {i : Nat} {x : Int} (h : l[i]? = some x) : (ro l)[i]? = some (riz x) := by simp [ro, h]
theorem ro_set (l : List Int) (i : Nat) (x : Int) : (ro l).set i (riz x) = ro (l.set i x) := by simp [ro, List.map_set]
theorem cp_ro (f : Poly) : cp f = ro (cs f) := rfl
theorem setCells_ro (l : List Int) (i : Nat) (x : Int) : setCells (rc (ro l)) (i * 2) (iz x) = rc (ro (l.set i x)) := by
  have := setCells_rc (ro l) i (riz x)
  rw [ro_set, ic_riz] at this
  exact this
theorem getD_some {l : List Int} {i : Nat} (h : i < l.length) : l[i]? = some (l.getD i 0) := by simp [h]
theorem Bz.set {K : Nat} {l : List Int} (h : Bz K l) {i : Nat} {x : Int} (hx : x.natAbs < 2 ^ K) : Bz K (l.set i x) := fun z hz => by
  rcases List.mem_or_eq_of_mem_set hz with h1 | h1
  · exact h z h1
  · rw [h1]; exact hx
theorem Bz.mono {K L : Nat} {l : List Int} (h : Bz K l) (hK : K ≤ L) : Bz L l := fun z hz => Nat.lt_of_lt_of_le (h z hz) (pw hK)
theorem riz_bits {z : Int} {K : Nat} (h : z.natAbs < 2 ^ K) (hK : K ≤ 2 ^ 40) : Dg (riz z).2 ∧ (riz z).2.length ≤ 2 ^ 36 :=
  ⟨dig_lt _, Nat.le_trans (dig_len (Nat.lt_of_lt_of_le h (pow32 (E := K / 32 + 1) (by omega)))) (by omega)⟩
end Go.Abs

set_option linter.unusedVariables false
set_option linter.unusedSimpArgs false
namespace Go.Abs
open Go Go.Proofs Poly
set_option maxRecDepth 100000

theorem getD_set {l : List Int} {i k : Nat} {x : Int} (h : i < l.length) : (l.set i x).getD k 0 = if k = i then x else l.getD k 0 := by
  rw [List.getD_eq_getElem?_getD, List.getD_eq_getElem?_getD, List.getElem?_set]
  by_cases e : i = k
  · subst e; rw [if_pos rfl, if_pos h, if_pos rfl]; rfl
  · rw [if_neg e, if_neg (by omega)]
theorem rc_own {ps : List RI} {i : Nat} {p : RI} (h : ps[i]? = some p) : (rc ps)[0 + ((i : Nat) : Int).toNat * 2]? = some (.bool p.1) ∧ (rc ps)[0 + ((i : Nat) : Int).toNat * 2 + 1]? = some (du p.2) := by
  rw [Int.toNat_natCast, Nat.zero_add]; exact ⟨rc_get0 h, rc_get1 h⟩
theorem mulI {x y : Int} {K L : Nat} (hx : x.natAbs < 2 ^ K) (hy : y.natAbs < 2 ^ L) (hK : K ≤ 2 ^ 40) (hL : L ≤ 2 ^ 40) : Fn Try.prog 123 [.agg (ic (riz x).1 (riz x).2), .agg (ic (riz y).1 (riz y).2)] [] (.agg (iz (x * y))) [] := by
  have h1 := riz_bits hx hK
  have h2 := riz_bits hy hL
  have := imul_fn (riz x).1 (riz y).1 (riz x).2 (riz y).2 (by omega) (by omega) h1.1 h2.1
  rwa [show ival (riz x).1 (riz x).2 = x from rval_riz _, show ival (riz y).1 (riz y).2 = y from rval_riz _] at this
theorem addI {x y : Int} {K L : Nat} (hx : x.natAbs < 2 ^ K) (hy : y.natAbs < 2 ^ L) (hK : K ≤ 2 ^ 40) (hL : L ≤ 2 ^ 40) : Fn Try.prog 96 [.agg (ic (riz x).1 (riz x).2), .agg (ic (riz y).1 (riz y).2)] [] (.agg (iz (x + y))) [] := by
  have h1 := riz_bits hx hK
  have h2 := riz_bits hy hL
  have := iadd_fn (riz x).1 (riz y).1 (riz x).2 (riz y).2 (by omega) (by omega) h1.1 h2.1
  rwa [show ival (riz x).1 (riz x).2 = x from rval_riz _, show ival (riz y).1 (riz y).2 = y from rval_riz _] at this
/-- a raw number times a canonical one -/
theorem mulI2 {s : Bool} {l : List Nat} {y : Int} {L : Nat} (hl : Dg l) (hl2 : l.length ≤ 2 ^ 36) (hy : y.natAbs < 2 ^ L) (hL : L ≤ 2 ^ 40) : Fn Try.prog 123 [.agg (ic s l), .agg (ic (riz y).1 (riz y).2)] [] (.agg (iz (ival s l * y))) [] := by
  have h2 := riz_bits hy hL
  have := imul_fn s (riz y).1 l (riz y).2 (by omega) (by omega) hl h2.1
  rwa [show ival (riz y).1 (riz y).2 = y from rval_riz _] at this
theorem mulI3 {s : Bool} {l : List Nat} {y : Int} {L : Nat} (hl : Dg l) (hl2 : l.length ≤ 2 ^ 36) (hy : y.natAbs < 2 ^ L) (hL : L ≤ 2 ^ 40) : Fn Try.prog 123 [.agg (ic (riz y).1 (riz y).2), .agg (ic s l)] [] (.agg (iz (y * ival s l))) [] := by
  have h2 := riz_bits hy hL
  have := imul_fn (riz y).1 s (riz y).2 l (by omega) (by omega) h2.1 hl
  rwa [show ival (riz y).1 (riz y).2 = y from rval_riz _] at this

theorem shiftP {n K L : Nat} {ps : List RI} {s : Bool} {l : List Nat} (hpn : ps.length ≤ 2 ^ 39) (hpo : Pok (2 ^ 39) ps) (hf : Bd n K (pol ps)) (hl1 : Dg l) (hl2 : l.length ≤ 2 ^ 36) (hc : (ival s l).natAbs < 2 ^ L) (hn : n ≤ 2 ^ 39)
    (hb : K + n * n * (L + 1) ≤ 2 ^ 40) : Fn Try.prog 53 [.d (rp ps), .agg (ic s l)] [] (.d (rp (cp (comp (pol ps) (X + C (ival s l)))))) [] ∧ Bd n (K + n * n * (L + 1)) (comp (pol ps) (X + C (ival s l))) := by
  obtain ⟨f, hfp⟩ : ∃ f, f = pol ps := ⟨_, rfl⟩
  obtain ⟨c, hcd⟩ : ∃ c, c = ival s l := ⟨_, rfl⟩
  rw [← hfp] at hf ⊢
  rw [← hcd] at hc ⊢
  obtain ⟨N, hN⟩ : ∃ N, N = f.sz := ⟨_, rfl⟩
  have hNn : N ≤ n := hN ▸ hf.len
  obtain ⟨In, hI0, hI⟩ : ∃ In : List Int → Nat → List Int, (∀ o, In o 0 = o) ∧ ∀ o t, In o (t + 1) = (In o t).set (N - 2 - t) ((In o t).getD (N - 2 - t) 0 + c * (In o t).getD (N - 2 - t + 1) 0) :=
    ⟨fun o t => Nat.rec o (fun t p => p.set (N - 2 - t) (p.getD (N - 2 - t) 0 + c * p.getD (N - 2 - t + 1) 0)) t, fun _ => rfl, fun _ _ => rfl⟩
  obtain ⟨O, hO0, hO⟩ : ∃ O : Nat → List Int, O 0 = cs f ∧ ∀ i, O (i + 1) = In (O i) (N - 1 - i) :=
    ⟨fun i => Nat.rec (cs f) (fun i o => In o (N - 1 - i)) i, rfl, fun _ => rfl⟩
  have inner : ∀ (o : List Int) (B : Nat), o.length = N → Bz B o → ∀ t, t + 1 ≤ N → (In o t).length = N ∧ Bz (B + t * (L + 1)) (In o t) ∧ (In o t).take (N - 1 - t) = o.take (N - 1 - t) ∧ (In o t).getD (N - 1) 0 = o.getD (N - 1) 0 ∧
      ∀ y, (polL (o.drop (N - 1 - t))).ev y = (In o t).getD (N - 1 - t) 0 + (y - c) * (polL ((In o t).drop (N - t))).ev y := by
    intro o B hol hob t
    induction t with
    | zero =>
      intro h
      rw [hI0]
      refine ⟨hol, by simpa using hob, rfl, rfl, fun y => ?_⟩
      rw [Nat.sub_zero, drop_cons (by omega), ev_polL_cons, show N - 1 + 1 = N by omega, Nat.sub_zero, List.drop_eq_nil_of_le (by omega), ev_polL_nil]
      simp
    | succ t ih =>
      intro h
      obtain ⟨h1, h2, h3, h4, h5⟩ := ih (by omega)
      obtain ⟨k, hk⟩ : ∃ k, k = N - 2 - t := ⟨_, rfl⟩
      obtain ⟨p, hp⟩ : ∃ p, p = In o t := ⟨_, rfl⟩
      rw [hI, ← hk, ← hp]
      rw [← hp] at h1 h2 h3 h4 h5
      have e1 : N - 1 - t = k + 1 := by omega
      have e2 : N - t = k + 2 := by omega
      have e3 : N - 1 - (t + 1) = k := by omega
      have e4 : N - (t + 1) = k + 1 := by omega
      rw [e1] at h3 h5
      rw [e2] at h5
      rw [e3, e4]
      have hkl : k < p.length := by omega
      have hpk : p.getD k 0 = o.getD k 0 := by
        have := congrArg (fun l => l.getD k 0) h3
        simpa [List.getD_eq_getElem?_getD, List.getElem?_take] using this
      refine ⟨by simp [h1], ?_, ?_, ?_, fun y => ?_⟩
      · refine Bz.set (h2.mono (by rw [Nat.succ_mul]; omega)) ?_
        have a1 := h2.getD k
        have a2 := h2.getD (k + 1)
        have a3 := mul_lt2 hc a2
        have a4 : (c * p.getD (k + 1) 0).natAbs < 2 ^ (L + (B + t * (L + 1))) := by rw [Int.natAbs_mul]; exact a3
        have a5 := Int.natAbs_add_le (p.getD k 0) (c * p.getD (k + 1) 0)
        have a6 : 2 ^ (B + t * (L + 1)) ≤ 2 ^ (L + (B + t * (L + 1))) := pw (by omega)
        rw [show B + (t + 1) * (L + 1) = (L + (B + t * (L + 1))) + 1 by rw [Nat.succ_mul]; omega, Nat.pow_succ]
        omega
      · rw [List.take_set, List.set_eq_of_length_le (by rw [List.length_take]; omega)]
        have := congrArg (List.take k) h3
        rw [List.take_take, List.take_take, Nat.min_eq_left (by omega)] at this
        exact this
      · rw [getD_set hkl, if_neg (by omega)]; exact h4
      · rw [drop_cons (by omega), ev_polL_cons, h5, getD_set hkl, if_pos rfl, List.drop_set_of_lt (by omega), drop_cons (l := p) (i := k + 1) (by omega), ev_polL_cons, hpk]
        grind
  have outer : ∀ i, i ≤ N → (O i).length = N ∧ Bz (K + i * N * (L + 1)) (O i) ∧ (O i).getD (N - 1) 0 = f.c (N - 1) ∧
      ∀ y, f.ev y = (polL ((O i).take i)).ev (y - c) + (y - c) ^ i * (polL ((O i).drop i)).ev y := by
    intro i
    induction i with
    | zero =>
      intro _
      rw [hO0]
      refine ⟨by rw [cs_len, hN], by simpa using Bz.cs hf.ok, cs_getD _ _, fun y => ?_⟩
      rw [List.take_zero, List.drop_zero, ev_polL_nil, ev_cs]; simp
    | succ i ih =>
      intro hi
      obtain ⟨h1, h2, h3, h4⟩ := ih (by omega)
      obtain ⟨g1, g2, g3, g4, g5⟩ := inner (O i) _ h1 h2 (N - 1 - i) (by omega)
      rw [hO]
      rw [show N - 1 - (N - 1 - i) = i by omega] at g3 g5
      rw [show N - (N - 1 - i) = i + 1 by omega] at g5
      refine ⟨g1, g2.mono ?_, g4.trans h3, fun y => ?_⟩
      · have : (N - 1 - i) * (L + 1) ≤ N * (L + 1) := Nat.mul_le_mul_right _ (by omega)
        rw [Nat.succ_mul, Nat.add_mul]; omega
      · rw [h4 y, g5 y, take_snoc (by omega), ev_polL_app, ev_polL_cons, ev_polL_nil, g3, List.length_take, Nat.min_eq_left (by omega), Int.pow_succ]
        grind
  obtain ⟨z1, z2, z3, z4⟩ := outer N (Nat.le_refl _)
  have hres : polL (O N) = comp f (X + C c) := ext_ev fun y _ => by
    have := z4 (y + c)
    rw [List.take_of_length_le (by omega), List.drop_eq_nil_of_le (by omega), ev_polL_nil, show y + c - c = y by omega] at this
    simp [this]
  have hcan : cs (polL (O N)) = O N := cs_of_last (by
    by_cases h0 : N = 0
    · left; exact List.length_eq_zero_iff.1 (by omega)
    · right
      refine ⟨_, getD_some (by omega), ?_⟩
      rw [z1, z3, hN]
      exact last (by omega))
  have hcp : cp (comp f (X + C c)) = ro (O N) := by rw [← hres, cp_ro, hcan]
  have hNN : N * N ≤ n * n := Nat.mul_le_mul hNn hNn
  have hNb : N * N * (L + 1) ≤ n * n * (L + 1) := Nat.mul_le_mul_right _ hNN
  refine And.symm ⟨by
    rw [← hres]
    refine ⟨Nat.le_trans (polL_sz _) (by omega), fun k => ?_⟩
    exact Nat.lt_of_lt_of_le (z2.getD k) (pw (by omega)), ?_⟩
  rw [hcp]
  have hno := normO_fn ps hpn hpo
  rw [← hfp, ← hN] at hno
  refine fn0 (nt := 40) (res := [.tmp 4]) Try.func53 rfl (by decide) rfl rfl rfl rfl ?_
  intro Cx hP hnt hl
  refine awp_sx prog_ok hP hnt [] [] [] [0, 3] (by kernel_rfl) (G := fun K => K (St.mk [(0, V.d (rp ps)), (3, V.ptr 0 0)] [(0, some (Blk.mk [D.bool s, du l] true))] 2)) (fun K => by kernel_rfl) ?_
  refine awp_sx prog_ok hP hnt [] [.own N 2 (rc (cp f))] [] [3, 5] (by kernel_rfl) (G := fun K => Fn Try.prog 63 [V.d (rp ps)] [] (V.own 3 0 N 2) [(3, Blk.mk (rc (cp f)) true)] ∧ K (St.mk [(3, V.ptr 0 0), (5, V.own 3 0 N 2)] [(0, some (Blk.mk [D.bool s, du l] true)), (3, some (Blk.mk (rc (cp f)) true))] 5)) (fun K => by kernel_rfl) ?_
  refine ⟨hno _, ?_⟩
  refine awp_cut (ι := Unit) (fun _ => ⟨[(5, .own 0 0 N 2)], [(0, some ⟨rc (ro (O N)), true⟩)], 1⟩) (fun _ => True) ?_ ?_
  · refine awp_sx prog_ok hP hnt [] [] [] [3, 5, 11, 12] (by kernel_rfl) (G := fun K => K (St.mk [(3, V.ptr 0 0), (5, V.own 3 0 N 2), (11, V.d (D.int IntKind.i64 (↑N : Int))), (12, V.d (D.int IntKind.i64 (0 : Int)))] [(0, some (Blk.mk [D.bool s, du l] true)), (3, some (Blk.mk (rc (cp f)) true))] 8)) (fun K => by kernel_rfl) ?_
    refine awp_block ?_
    refine awp_loop (ι := Nat) (fun i => ⟨[(3, .ptr 0 0), (5, .own 1 0 N 2), (11, .d (.int .i64 N)), (12, .d (.int .i64 i))], [(0, some ⟨ic s l, true⟩), (1, some ⟨rc (ro (O i)), true⟩)], 2⟩)
      (fun i => i ≤ N) (fun i => N - i) 0 [(0, 0), (1, 3)] (by simp) ?_ ?_
    · (constructor <;> simp [hl, envOk, memOk, conv, St.get, St.blk, hO0, cp_ro, ic])
    intro i hi
    obtain ⟨h1, h2, h3, h4⟩ := outer i hi
    refine awp_sx prog_ok hP hnt [] [] [] [3, 5, 11, 12, 13] (by kernel_rfl) (G := fun K => K (St.mk [(3, V.ptr 0 0), (5, V.own 1 0 N 2), (11, V.d (D.int IntKind.i64 (↑N : Int))), (12, V.d (D.int IntKind.i64 (↑i : Int))), (13, V.d (D.bool (decide ((↑i : Int) < (↑N : Int)))))] [(0, some (Blk.mk [D.bool s, du l] true)), (1, some (Blk.mk (rc (ro (O i))) true))] 3)) (fun K => by kernel_rfl) ?_
    refine awp_seq_k fun K1 hK1 => ?_
    refine awp_cond rfl (fun e => awp_skip (hK1 _ ?_)) (fun e => awp_exit ⟨(), [(0, 1)], trivial, ?_⟩)
    · simp at e
      refine awp_seq_k fun K2 hK2 => ?_
      refine awp_block ?_
      refine awp_sx prog_ok hP hnt [] [] [] [3, 5, 6, 11, 12] (by kernel_rfl) (G := fun K => K (St.mk [(3, V.ptr 0 0), (5, V.own 1 0 N 2), (11, V.d (D.int IntKind.i64 (↑N : Int))), (12, V.d (D.int IntKind.i64 (↑i : Int))), (6, V.d (D.int IntKind.i64 (↑i : Int)))] [(0, some (Blk.mk [D.bool s, du l] true)), (1, some (Blk.mk (rc (ro (O i))) true))] 5)) (fun K => by kernel_rfl) ?_
      refine awp_sx prog_ok hP hnt [(17, .int .i64 ((N : Int) - 2))] [] [] [3, 5, 6, 7, 11, 12] (by kernel_rfl) (G := fun K => IntKind.i64.wrap ((↑N : Int) - (2 : Int)) = (↑N : Int) - (2 : Int) ∧ K (St.mk [(3, V.ptr 0 0), (5, V.own 1 0 N 2), (11, V.d (D.int IntKind.i64 (↑N : Int))), (12, V.d (D.int IntKind.i64 (↑i : Int))), (6, V.d (D.int IntKind.i64 (↑i : Int))), (7, V.d (D.int IntKind.i64 ((↑N : Int) - (2 : Int))))] [(0, some (Blk.mk [D.bool s, du l] true)), (1, some (Blk.mk (rc (ro (O i))) true))] 9)) (fun K => by kernel_rfl) ?_
      refine ⟨by rw [w64] <;> omega, ?_⟩
      refine awp_block ?_
      refine awp_loop (ι := Nat) (fun t => ⟨[(3, .ptr 0 0), (5, .own 1 0 N 2), (6, .d (.int .i64 i)), (7, .d (.int .i64 ((N : Int) - 2 - t))), (11, .d (.int .i64 N)), (12, .d (.int .i64 i))], [(0, some ⟨ic s l, true⟩), (1, some ⟨rc (ro (In (O i) t)), true⟩)], 2⟩)
        (fun t => t ≤ N - 1 - i) (fun t => N - 1 - i - t) 0 [(0, 0), (1, 1)] (by simp) ?_ ?_
      · (constructor <;> simp [hl, envOk, memOk, conv, St.get, St.blk, hI0, ic])
      intro t ht
      obtain ⟨g1, g2, g3, g4, g5⟩ := inner (O i) _ h1 h2 t (by omega)
      refine awp_seq_k fun K3 hK3 => ?_
      refine awp_sx prog_ok hP hnt [] [] [] [3, 5, 6, 7, 11, 12, 20] (by kernel_rfl) (G := fun K => K (St.mk [(3, V.ptr 0 0), (5, V.own 1 0 N 2), (6, V.d (D.int IntKind.i64 (↑i : Int))), (7, V.d (D.int IntKind.i64 ((↑N : Int) - (2 : Int) - (↑t : Int)))), (11, V.d (D.int IntKind.i64 (↑N : Int))), (12, V.d (D.int IntKind.i64 (↑i : Int))), (20, V.d (D.bool (decide ((↑N : Int) - (2 : Int) - (↑t : Int) ≥ (↑i : Int)))))] [(0, some (Blk.mk [D.bool s, du l] true)), (1, some (Blk.mk (rc (ro (In (O i) t))) true))] 5)) (fun K => by kernel_rfl) ?_
      refine awp_cond rfl (fun e2 => awp_skip (hK3 _ ?_)) (fun e2 => awp_exit (hK2 _ ?_))
      · simp at e2
        obtain ⟨k, hk⟩ : ∃ k, k = N - 2 - t := ⟨_, rfl⟩
        have hki : (N : Int) - 2 - t = k := by omega
        rw [hki]
        have hIt := hI (O i) t
        rw [← hk] at hIt
        generalize hp : In (O i) t = p at *
        have a1 := getD_some (l := p) (i := k) (by omega)
        have a2 := getD_some (l := p) (i := k + 1) (by omega)
        have b1 := g2.getD k
        have b2 := g2.getD (k + 1)
        have hbt : K + i * N * (L + 1) + t * (L + 1) + (L + 1) ≤ K + N * N * (L + 1) := by
          have : (i * N + t + 1) * (L + 1) ≤ N * N * (L + 1) := Nat.mul_le_mul_right _ (by
            have : (i + 1) * N ≤ N * N := Nat.mul_le_mul_right _ (by omega)
            rw [Nat.succ_mul] at this
            omega)
          rw [Nat.add_mul, Nat.add_mul] at this
          omega
        generalize p.getD k 0 = u at *
        generalize p.getD (k + 1) 0 = v at *
        have m1 := mulI2 (s := s) hl1 hl2 b2 (by omega)
        rw [← hcd] at m1
        have b3 : (c * v).natAbs < 2 ^ (L + (K + i * N * (L + 1) + t * (L + 1))) := by rw [Int.natAbs_mul]; exact mul_lt2 hc b2
        have m2 := addI b1 b3 (by omega) (by omega)
        have hsc := setCells_ro p k (u + c * v)
        rw [← hIt] at hsc
        refine awp_seq_k fun K4 hK4 => ?_
        refine awp_block ?_
        refine awp_x prog_ok hP hnt [(32, .int .i64 (k + 1 : Nat))] [.val (.agg (iz (c * v))), .val (.agg (iz (u + c * v)))] [some (iz u), some (ic s l), some (iz v)] [3, 5, 6, 7, 11, 12] (by kernel_rfl) (G := fun K => ((0 : Int) ≤ (↑k : Int) ∧ (↑k : Int) < (↑N : Int)) ∧ ((rc (ro p))[0 + (↑k : Int).toNat * 2]? = some (D.bool (decide (u < (0 : Int)))) ∧ (rc (ro p))[0 + (↑k : Int).toNat * 2 + 1]? = some (du (dig u.natAbs))) ∧ ([D.bool s, du l][0]? = some (D.bool s) ∧ [D.bool s, du l][1]? = some (du l)) ∧ IntKind.i64.wrap ((↑k : Int) + (1 : Int)) = (↑(k + 1) : Int) ∧ ((0 : Int) ≤ (↑(k + 1) : Int) ∧ (↑(k + 1) : Int) < (↑N : Int)) ∧ ((rc (ro p))[0 + (↑(k + 1) : Int).toNat * 2]? = some (D.bool (decide (v < (0 : Int)))) ∧ (rc (ro p))[0 + (↑(k + 1) : Int).toNat * 2 + 1]? = some (du (dig v.natAbs))) ∧ Fn Try.prog 123 [V.agg [D.bool s, du l], V.agg [D.bool (decide (v < (0 : Int))), du (dig v.natAbs)]] [] (V.agg [D.bool (decide (c * v < (0 : Int))), du (dig (c * v).natAbs)]) [] ∧ Fn Try.prog 96 [V.agg [D.bool (decide (u < (0 : Int))), du (dig u.natAbs)], V.agg [D.bool (decide (c * v < (0 : Int))), du (dig (c * v).natAbs)]] [] (V.agg [D.bool (decide (u + c * v < (0 : Int))), du (dig (u + c * v).natAbs)]) [] ∧ ((0 : Int) ≤ (↑k : Int) ∧ (↑k : Int) < (↑N : Int)) ∧ 0 + (↑k : Int).toNat * 2 + (iz (u + c * v)).length ≤ (rc (ro p)).length ∧ K (St.mk [(3, V.ptr 0 0), (5, V.own 1 0 N 2), (6, V.d (D.int IntKind.i64 (↑i : Int))), (7, V.d (D.int IntKind.i64 (↑k : Int))), (11, V.d (D.int IntKind.i64 (↑N : Int))), (12, V.d (D.int IntKind.i64 (↑i : Int)))] [(0, some (Blk.mk [D.bool s, du l] true)), (1, some (Blk.mk (setCells (rc (ro p)) (0 + (↑k : Int).toNat * 2) (iz (u + c * v))) true))] 21)) (fun K => by kernel_rfl) ?_
        refine ⟨⟨by omega, by omega⟩, rc_own (ro_get a1), ⟨rfl, rfl⟩, by rw [w64] <;> omega, ⟨by omega, by omega⟩, rc_own (ro_get a2), m1, m2, ⟨by omega, by omega⟩, ?_, hK4 _ ?_⟩
        · rw [rc_len, ro_len, g1, Int.toNat_natCast, Nat.zero_add]; show k * 2 + 2 ≤ N * 2; omega
        refine awp_x prog_ok hP hnt [(22, .int .i64 ((N : Int) - 2 - (t + 1 : Nat)))] [] [] [3, 5, 6, 7, 11, 12] (by kernel_rfl) (G := fun K => IntKind.i64.wrap ((↑k : Int) - (1 : Int)) = (↑N : Int) - (2 : Int) - (↑(t + 1) : Int) ∧ K (St.mk [(3, V.ptr 0 0), (5, V.own 1 0 N 2), (6, V.d (D.int IntKind.i64 (↑i : Int))), (7, V.d (D.int IntKind.i64 ((↑N : Int) - (2 : Int) - (↑(t + 1) : Int)))), (11, V.d (D.int IntKind.i64 (↑N : Int))), (12, V.d (D.int IntKind.i64 (↑i : Int)))] [(0, some (Blk.mk [D.bool s, du l] true)), (1, some (Blk.mk (setCells (rc (ro p)) (0 + (↑k : Int).toNat * 2) (iz (u + c * v))) true))] 24)) (fun K => by kernel_rfl) ?_
        refine ⟨by rw [w64] <;> omega, t + 1, [(0, 0), (1, 1)], ⟨by omega, by omega⟩, ?_⟩
        rw [Int.toNat_natCast, Nat.zero_add, hsc]
        (constructor <;> simp [hl, envOk, memOk, conv, St.get, St.blk, ic])
      · simp at e2
        have : t = N - 1 - i := by omega
        subst this
        refine awp_x prog_ok hP hnt [(38, .int .i64 (i + 1 : Nat))] [] [] [3, 5, 11, 12] (by kernel_rfl) (G := fun K => IntKind.i64.wrap ((↑i : Int) + (1 : Int)) = (↑(i + 1) : Int) ∧ K (St.mk [(3, V.ptr 0 0), (5, V.own 1 0 N 2), (11, V.d (D.int IntKind.i64 (↑N : Int))), (12, V.d (D.int IntKind.i64 (↑(i + 1) : Int)))] [(0, some (Blk.mk [D.bool s, du l] true)), (1, some (Blk.mk (rc (ro (In (O i) (N - 1 - i)))) true))] 7)) (fun K => by kernel_rfl) ?_
        refine ⟨by rw [w64] <;> omega, i + 1, [(0, 0), (1, 1)], ⟨by omega, by omega⟩, ?_⟩
        (constructor <;> simp [hl, envOk, memOk, conv, St.get, St.blk, hO, ic])
    · simp at e
      have : i = N := by omega
      subst this
      (constructor <;> simp [hl, envOk, memOk, conv, St.get, St.blk])
  intro _ _
  refine awp_sx prog_ok hP hnt [] [] [] [4] (by kernel_rfl) (G := fun K => K (St.mk [(4, V.own 0 0 N 2)] [(0, some (Blk.mk (rc (ro (O N))) true))] 3)) (fun K => by kernel_rfl) ?_
  refine awp_ret ⟨.inl rfl, retOwn rfl rfl ?_⟩
  exact own_rp (by simp [z1])
end Go.Abs

set_option linter.unusedVariables false
set_option linter.unusedSimpArgs false
namespace Go.Abs
open Go Go.Proofs Poly
set_option maxRecDepth 100000

theorem reverseP {i : Nat} {ps : List RI} (hi : i ≤ 12) (hp : W i ps) : Fn Try.prog 57 [.d (rp ps)] [] (.d (rp (cp (revP (pol ps) (pol ps).sz)))) [] ∧ Lv i (revP (pol ps) (pol ps).sz) := by
  have h2 := lim2 hi
  have h4 := lim4 hi
  have hln := hp.len
  obtain ⟨f, hf⟩ : ∃ f, f = pol ps := ⟨_, rfl⟩
  rw [← hf]
  have hlv : Lv i f := hf ▸ hp.lv
  obtain ⟨N, hN⟩ : ∃ N, N = f.sz := ⟨_, rfl⟩
  rw [← hN]
  have hfs : N ≤ ps.length := by rw [hN, hf]; exact pol_sz ps
  have hrs : (revP f N).sz ≤ N := sz_le fun k hk => by rw [revP_c, if_neg (by omega)]
  have hrb : ∀ k, ((revP f N).c k).natAbs < 4294967296 ^ (40 * 4 ^ i) := fun k => by
    rw [revP_c]; split
    · exact hlv.ok _
    · exact Nat.pow_pos (by omega)
  refine And.symm ⟨⟨Nat.le_trans hrs (by rw [hN]; exact hlv.len), hrb⟩, ?_⟩
  have htr := trimW hi hp
  have htl : (rtrim ps).length = N := by rw [rtrim_lenp, ← hf, hN]
  have htg := fun k => rtrim_cp ps k
  rw [← hf, ← hN] at htg
  -- behind j steps: the upper j places are filled
  obtain ⟨F, hF⟩ : ∃ F : Nat → Nat → Int, F = fun j k => if N ≤ k + j then (revP f N).c k else 0 := ⟨_, rfl⟩
  have hF0 : mz (F 0) N = List.replicate N (riz 0) := by
    rw [mz_zero]; exact mz_ext fun k hk => by rw [hF]; simp only; rw [if_neg (by omega)]
  have hFN : mz (F N) N = mz (revP f N).c N := mz_ext fun k hk => by rw [hF]; simp only; rw [if_pos (by omega)]
  have hFs : ∀ j, j < N → (mz (F j) N).set (N - 1 - j) (riz (f.c j)) = mz (F (j + 1)) N := fun j hj => mz_set (by
      rw [hF]; simp only; rw [if_pos (by omega), revP_c, if_pos (by omega), show N - 1 - (N - 1 - j) = j by omega]) fun k hk hkN => by
    rw [hF]; simp only
    by_cases h : N ≤ k + j
    · rw [if_pos h, if_pos (by omega)]
    · rw [if_neg h, if_neg (by omega)]
  refine fn0 (nt := 30) (res := [.tmp 2]) Try.func57 rfl (by decide) rfl rfl rfl rfl ?_
  intro Cx hP hnt hl
  refine awp_sx prog_ok hP hnt [] [] [] [0] (by kernel_rfl) (G := fun K => K (St.mk [(0, V.d (rp ps))] [] 1)) (fun K => by kernel_rfl) ?_
  refine awp_sx prog_ok hP hnt [] [.val (.d (rp (rtrim ps)))] [] [0] (by kernel_rfl) (G := fun K => Fn Try.prog 161 [V.d (rp ps)] [] (V.d (rp (rtrim ps))) [] ∧ K (St.mk [(0, V.d (rp (rtrim ps)))] [] 4)) (fun K => by kernel_rfl) ?_
  refine ⟨htr, ?_⟩
  refine awp_sx prog_ok hP hnt [(9, .int .i64 N)] [] [] [0, 3] (by kernel_rfl) (G := fun K => (↑(rtrim ps).length : Int) = (↑N : Int) ∧ ((↑N : Int) = (↑N : Int) ∧ (0 : Int) ≤ (↑N : Int) ∧ (↑N : Int) * (↑32 : Int) ≤ (2 : Int) ^ 47) ∧ K (St.mk [(0, V.d (rp (rtrim ps))), (3, V.own 6 0 (↑N : Int).toNat 2)] [(6, some (Blk.mk (zeros (↑N : Int).toNat (TI.mk (Kind.struct [(0, 1), (1, 1)]) 2 32 [D.bool false, D.lst 0 []]).zero) true))] 8)) (fun K => by kernel_rfl) ?_
  refine ⟨by rw [htl], by omega, ?_⟩
  refine awp_cut (ι := Unit) (fun _ => ⟨[(3, .own 0 0 N 2)], [(0, some ⟨rc (mz (F N) N), true⟩)], 1⟩) (fun _ => True) ?_ ?_
  · refine awp_sx prog_ok hP hnt [] [] [] [0, 3, 11, 12, 13] (by kernel_rfl) (G := fun K => K (St.mk [(0, V.d (rp (rtrim ps))), (3, V.own 6 0 (↑N : Int).toNat 2), (11, V.d (rp (rtrim ps))), (12, V.d (D.int IntKind.i64 (↑(rtrim ps).length : Int))), (13, V.d (D.int IntKind.i64 (0 : Int)))] [(6, some (Blk.mk (zeros (↑N : Int).toNat (TI.mk (Kind.struct [(0, 1), (1, 1)]) 2 32 [D.bool false, D.lst 0 []]).zero) true))] 11)) (fun K => by kernel_rfl) ?_
    refine awp_block ?_
    refine awp_loop (ι := Nat) (fun j => ⟨[(0, .d (rp (rtrim ps))), (3, .own 0 0 N 2), (11, .d (rp (rtrim ps))), (12, .d (.int .i64 N)), (13, .d (.int .i64 j))], [(0, some ⟨rc (mz (F j) N), true⟩)], 1⟩)
      (fun j => j ≤ N) (fun j => N - j) 0 [(0, 6)] (by simp) ?_ ?_
    · rw [Int.toNat_natCast]
      (constructor <;> simp [hl, envOk, memOk, conv, St.get, St.blk, zeros_rc, hF0, htl])
    intro j hj
    refine awp_sx prog_ok hP hnt [] [] [] [0, 3, 11, 12, 13, 14] (by kernel_rfl) (G := fun K => K (St.mk [(0, V.d (rp (rtrim ps))), (3, V.own 0 0 N 2), (11, V.d (rp (rtrim ps))), (12, V.d (D.int IntKind.i64 (↑N : Int))), (13, V.d (D.int IntKind.i64 (↑j : Int))), (14, V.d (D.bool (decide ((↑j : Int) < (↑N : Int)))))] [(0, some (Blk.mk (rc (mz (F j) N)) true))] 2)) (fun K => by kernel_rfl) ?_
    refine awp_seq_k fun K1 hK1 => ?_
    refine awp_cond rfl (fun e => awp_skip (hK1 _ ?_)) (fun e => awp_exit ⟨(), [(0, 0)], trivial, ?_⟩)
    · simp at e
      obtain ⟨p, hp1⟩ := get_ex (l := ps) (i := j) (by omega)
      have hp2 : (rtrim ps)[j]? = some p := by rw [htg, if_pos e, hp1]
      have hpo := hp.ok p (List.mem_of_getElem? hp1)
      have hfx : ival p.1 p.2 = f.c j := by rw [hf, pol_c, co_some hp1]; rfl
      have h3 := inorm_fn p.1 p.2 (by have := hpo.2; omega) hpo.1
      rw [hfx] at h3
      have hsc := setCells_rc (mz (F j) N) (N - 1 - j) (riz (f.c j))
      rw [hFs j e, ic_riz] at hsc
      refine awp_seq_k fun K2 hK2 => ?_
      refine awp_block ?_
      refine awp_sx prog_ok hP hnt [] [] [some [.bool p.1, du p.2]] [0, 3, 4, 5, 11, 12, 13] (by kernel_rfl) (G := fun K => ((0 : Int) ≤ (↑j : Int) ∧ (↑j : Int) < (↑(rtrim ps).length : Int) ∧ ((↑j : Int).toNat + 1) * 2 ≤ (rc (rtrim ps)).length) ∧ ((List.drop ((↑j : Int).toNat * 2) (rc (rtrim ps)))[0]? = some (D.bool p.fst) ∧ (List.drop ((↑j : Int).toNat * 2) (rc (rtrim ps)))[1]? = some (du p.snd)) ∧ 0 + [D.bool p.fst, du p.snd].length ≤ (TI.mk (Kind.struct [(0, 1), (1, 1)]) 2 32 [D.bool false, D.lst 0 []]).zero.length ∧ K (St.mk [(0, V.d (rp (rtrim ps))), (3, V.own 0 0 N 2), (11, V.d (rp (rtrim ps))), (12, V.d (D.int IntKind.i64 (↑N : Int))), (13, V.d (D.int IntKind.i64 (↑j : Int))), (5, V.ptr 5 0), (4, V.d (D.int IntKind.i64 (↑j : Int)))] [(0, some (Blk.mk (rc (mz (F j) N)) true)), (5, some (Blk.mk [D.bool p.fst, du p.snd] true))] 8)) (fun K => by kernel_rfl) ?_
      refine ⟨⟨by omega, by omega, by rw [rc_len, htl]; omega⟩, by rw [rc_drop0 hp2]; exact ⟨rfl, rfl⟩, by simp, ?_⟩
      refine awp_x prog_ok hP hnt [(21, .int .i64 (N - 1 : Int)), (23, .int .i64 (N - 1 - j : Nat))] [.val (.agg (iz (f.c j)))] [some [.bool p.1, du p.2]] [0, 3, 11, 12, 13] (by kernel_rfl) (G := fun K => IntKind.i64.wrap ((↑(rtrim ps).length : Int) - (1 : Int)) = (↑N : Int) - (1 : Int) ∧ IntKind.i64.wrap ((↑N : Int) - (1 : Int) - (↑j : Int)) = (↑(N - 1 - j) : Int) ∧ ([D.bool p.fst, du p.snd][0]? = some (D.bool p.fst) ∧ [D.bool p.fst, du p.snd][1]? = some (du p.snd)) ∧ Fn Try.prog 165 [V.agg [D.bool p.fst, du p.snd]] [] (V.agg [D.bool (decide (f.c j < (0 : Int))), du (dig (f.c j).natAbs)]) [] ∧ ((0 : Int) ≤ (↑(N - 1 - j) : Int) ∧ (↑(N - 1 - j) : Int) < (↑N : Int)) ∧ 0 + (↑(N - 1 - j) : Int).toNat * 2 + (iz (f.c j)).length ≤ (rc (mz (F j) N)).length ∧ K (St.mk [(0, V.d (rp (rtrim ps))), (3, V.own 0 0 N 2), (11, V.d (rp (rtrim ps))), (12, V.d (D.int IntKind.i64 (↑N : Int))), (13, V.d (D.int IntKind.i64 (↑j : Int)))] [(0, some (Blk.mk (setCells (rc (mz (F j) N)) (0 + (↑(N - 1 - j) : Int).toNat * 2) (iz (f.c j))) true)), (5, some (Blk.mk [D.bool p.fst, du p.snd] true))] 18)) (fun K => by kernel_rfl) ?_
      refine ⟨by rw [htl, w64] <;> omega, by rw [w64] <;> omega, ⟨rfl, rfl⟩, h3, ⟨by omega, by omega⟩, ?_, hK2 _ ?_⟩
      · rw [rc_len, mz_len, Int.toNat_natCast, Nat.zero_add]; show (N - 1 - j) * 2 + 2 ≤ N * 2; omega
      refine awp_x prog_ok hP hnt [(27, .int .i64 (j + 1 : Nat))] [] [] [0, 3, 11, 12, 13] (by kernel_rfl) (G := fun K => IntKind.i64.wrap ((↑j : Int) + (1 : Int)) = (↑(j + 1) : Int) ∧ K (St.mk [(0, V.d (rp (rtrim ps))), (3, V.own 0 0 N 2), (11, V.d (rp (rtrim ps))), (12, V.d (D.int IntKind.i64 (↑N : Int))), (13, V.d (D.int IntKind.i64 (↑(j + 1) : Int)))] [(0, some (Blk.mk (setCells (rc (mz (F j) N)) (0 + (↑(N - 1 - j) : Int).toNat * 2) (iz (f.c j))) true)), (5, some (Blk.mk [D.bool p.fst, du p.snd] true))] 20)) (fun K => by kernel_rfl) ?_
      refine ⟨by rw [w64] <;> omega, j + 1, [(0, 0)], ⟨by omega, by omega⟩, ?_⟩
      rw [Int.toNat_natCast, Nat.zero_add, hsc]
      (constructor <;> simp [hl, envOk, memOk, conv, St.get, St.blk])
    · simp at e
      have : j = N := by omega
      subst this
      (constructor <;> simp [hl, envOk, memOk, conv, St.get, St.blk])
  intro _ _
  have ht := utrim_fn (mz (F N) N) (by simp; omega) (by rw [hFN]; exact pok_mono (by omega) (mz_ok hrb))
  rw [hFN, rtrim_mz, can_eq (f := revP f N) (fun _ => rfl) hrs] at ht
  refine awp_sx prog_ok hP hnt [] [.val (.d (rp (cp (revP f N))))] [] [2] (by kernel_rfl) (G := fun K => Fn Try.prog 161 [V.d (D.lst N (List.take (N * 2) (List.drop 0 (rc (mz (F N) N)))))] [] (V.d (rp (cp (revP f N)))) [] ∧ K (St.mk [(2, V.d (rp (cp (revP f N))))] [(0, some (Blk.mk (rc (mz (F N) N)) false))] 4)) (fun K => by kernel_rfl) ?_
  refine ⟨?_, awp_ret ⟨.inl rfl, retD rfl⟩⟩
  rw [own_rp (by simp), hFN]
  exact ht
end Go.Abs

set_option linter.unusedVariables false
set_option linter.unusedSimpArgs false
namespace Go.Abs
open Go Go.Proofs Poly
set_option maxRecDepth 100000

theorem Bd.w {n K i : Nat} {f : Poly} (h : Bd n K f) (hn : n ≤ 100 * 2 ^ i) (hK : K ≤ 1280 * 4 ^ i) : W i (cp f) := (h.lv hn hK).w

end Go.Abs

set_option linter.unusedVariables false
set_option linter.unusedSimpArgs false
namespace Go.Abs
open Go Go.Proofs Poly
set_option maxRecDepth 100000

theorem few_bd {a b : Nat} {ps : List RI} (hd : ∀ p ∈ ps, Dg p.2) (h : few a b ps = true) : Bd a (32 * b) (pol ps) := by
  have := few_sz hd h
  refine ⟨Nat.le_trans (pol_sz ps) this.1, fun k => ?_⟩
  have h1 := co_abs this.2 k
  rwa [show (4294967296 : Nat) = 2 ^ 32 by rfl, ← Nat.pow_mul] at h1
theorem val_bits {s : Bool} {l : List Nat} {b : Nat} (hd : Dg l) (h : l.length ≤ b) : (ival s l).natAbs < 2 ^ (32 * b) := by
  unfold ival; rw [sgn_abs]
  have h1 := val_lt hd
  rw [show (4294967296 : Nat) = 2 ^ 32 by rfl, ← Nat.pow_mul] at h1
  exact Nat.lt_of_lt_of_le h1 (pw (by omega))

end Go.Abs

set_option linter.unusedVariables false
set_option linter.unusedSimpArgs false
namespace Go.Abs
open Go Go.Proofs
set_option maxRecDepth 100000

/-- the number of bits -/
def blen (n : Nat) : Nat := if n = 0 then 0 else Nat.log2 n + 1
theorem blen_lt (n : Nat) : n < 2 ^ blen n := by
  unfold blen
  by_cases h : n = 0
  · simp [h]
  · rw [if_neg h]; exact Nat.lt_log2_self
theorem blen_le {n : Nat} (h : n ≠ 0) : 2 ^ (blen n - 1) ≤ n := by
  unfold blen
  rw [if_neg h]; exact Nat.log2_self_le h
theorem blen_iff {n k : Nat} : blen n ≤ k ↔ n < 2 ^ k := by
  constructor
  · intro h; exact Nat.lt_of_lt_of_le (blen_lt n) (Nat.pow_le_pow_right (by omega) h)
  · intro h
    by_cases h0 : n = 0
    · subst h0; simp [blen]
    · have h1 := blen_le h0
      have h2 : 2 ^ (blen n - 1) < 2 ^ k := Nat.lt_of_le_of_lt h1 h
      have := (Nat.pow_lt_pow_iff_right (a := 2) (by omega)).1 h2
      omega
theorem blen_eq {n k : Nat} (h1 : n < 2 ^ (k + 1)) (h2 : 2 ^ k ≤ n) : blen n = k + 1 := by
  have a := (blen_iff (n := n) (k := k + 1)).2 h1
  have b : ¬ blen n ≤ k := fun h => by have := blen_iff.1 h; omega
  omega
theorem blen_pos {n : Nat} (h : n ≠ 0) : 0 < blen n := by unfold blen; rw [if_neg h]; omega
theorem blen_shift {n k : Nat} (h : 2 ^ k ≤ n) : blen n = k + blen (n / 2 ^ k) := by
  have hp : 0 < 2 ^ k := Nat.pow_pos (by omega)
  have h0 : n / 2 ^ k ≠ 0 := by have := (Nat.le_div_iff_mul_le hp (x := 1) (y := n)).2 (by omega); omega
  have hb := blen_pos h0
  have h1 := blen_lt (n / 2 ^ k)
  have h2 := blen_le h0
  have := blen_eq (n := n) (k := k + blen (n / 2 ^ k) - 1) (by
    rw [show k + blen (n / 2 ^ k) - 1 + 1 = blen (n / 2 ^ k) + k by omega, Nat.pow_add]
    exact (Nat.div_lt_iff_lt_mul hp).1 h1) (by
    rw [show k + blen (n / 2 ^ k) - 1 = blen (n / 2 ^ k) - 1 + k by omega, Nat.pow_add]
    exact (Nat.le_div_iff_mul_le hp).1 h2)
  omega

theorem fdivN (a k : Nat) : Int.fdiv (a : Int) (2 ^ k) = (a / 2 ^ k : Nat) := by
  rw [Int.fdiv_eq_ediv_of_nonneg _ (Int.pow_nonneg (by decide))]
  simp

def len8 : ByteArray := ⟨#[0, 1, 2, 2, 3, 3, 3, 3, 4, 4, 4, 4, 4, 4, 4, 4, 5, 5, 5, 5, 5, 5, 5, 5, 5, 5, 5, 5, 5, 5, 5, 5, 6, 6, 6, 6, 6, 6, 6, 6, 6, 6, 6, 6, 6, 6, 6, 6, 6, 6, 6, 6, 6, 6, 6, 6, 6, 6, 6, 6, 6, 6, 6, 6, 7, 7, 7, 7, 7, 7, 7, 7, 7, 7, 7, 7, 7, 7, 7, 7, 7, 7, 7, 7, 7, 7, 7, 7, 7, 7, 7, 7, 7, 7, 7, 7, 7, 7, 7, 7, 7, 7, 7, 7, 7, 7, 7, 7, 7, 7, 7, 7, 7, 7, 7, 7, 7, 7, 7, 7, 7, 7, 7, 7, 7, 7, 7, 7, 8, 8, 8, 8, 8, 8, 8, 8, 8, 8, 8, 8, 8, 8, 8, 8, 8, 8, 8, 8, 8, 8, 8, 8, 8, 8, 8, 8, 8, 8, 8, 8, 8, 8, 8, 8, 8, 8, 8, 8, 8, 8, 8, 8, 8, 8, 8, 8, 8, 8, 8, 8, 8, 8, 8, 8, 8, 8, 8, 8, 8, 8, 8, 8, 8, 8, 8, 8, 8, 8, 8, 8, 8, 8, 8, 8, 8, 8, 8, 8, 8, 8, 8, 8, 8, 8, 8, 8, 8, 8, 8, 8, 8, 8, 8, 8, 8, 8, 8, 8, 8, 8, 8, 8, 8, 8, 8, 8, 8, 8, 8, 8, 8, 8, 8, 8, 8, 8, 8, 8, 8, 8, 8, 8, 8, 8, 8, 8]⟩
theorem len8_eq : ∀ z, z < 256 → len8[z]? = some (UInt8.ofNat (blen z)) := by decide +kernel

theorem len32_fn (x : Nat) (hx : x < 4294967296) : Fn Try.prog 246 [.d (.int .u32 x)] [] (.d (.int .i64 (blen x))) [] := by
  refine fn0 (nt := 19) (res := [.tmp 2]) Try.func246 rfl (by decide) rfl rfl rfl rfl ?_
  intro Cx hP hnt hl
  have h32 : blen x ≤ 32 := blen_iff.2 hx
  refine awp_sx prog_ok hP hnt [] [] [] [0, 2] (by kernel_rfl) (G := fun K => K (St.mk [(0, V.d (D.int IntKind.u32 (↑x : Int))), (2, V.d (D.int IntKind.i64 (0 : Int)))] [] 1)) (fun K => by kernel_rfl) ?_
  refine awp_cut (ι := Nat) (fun y => ⟨[(0, .d (.int .u32 y)), (2, .d (.int .i64 (blen x - blen y : Nat)))], [], 8⟩) (fun y => y < 65536 ∧ blen y ≤ blen x) ?_ ?_
  · refine awp_sx prog_ok hP hnt [] [] [] [0, 2, 4] (by kernel_rfl) (G := fun K => K (St.mk [(0, V.d (D.int IntKind.u32 (↑x : Int))), (2, V.d (D.int IntKind.i64 (0 : Int))), (4, V.d (D.bool (decide ((↑x : Int) ≥ (65536 : Int)))))] [] 3)) (fun K => by kernel_rfl) ?_
    refine awp_cond rfl (fun e => ?_) (fun e => awp_skip ⟨x, [], ?_, ?_⟩)
    · simp at e
      have hs := blen_shift (n := x) (k := 16) (by omega)
      rw [show x / 2 ^ 16 = x / 65536 from rfl] at hs
      have hw : (x : Int).fdiv (2 ^ 16) = (x / 65536 : Nat) := fdivN x 16
      refine awp_sx prog_ok hP hnt [(6, .int .u32 (x / 65536 : Nat))] [] [] [0] (by kernel_rfl) (G := fun K => (0 : Int) ≤ (16 : Int) ∧ (↑x : Int).fdiv ((2 : Int) ^ min (Int.toNat (16 : Int)) IntKind.u32.bits) = (↑(x / 65536) : Int) ∧ K (St.mk [(0, V.d (D.int IntKind.u32 (↑(x / 65536) : Int)))] [] 6)) (fun K => by kernel_rfl) ?_
      refine ⟨by omega, hw, ?_⟩
      refine awp_x prog_ok hP hnt [] [] [] [0, 2] (by kernel_rfl) (G := fun K => K (St.mk [(0, V.d (D.int IntKind.u32 (↑(x / 65536) : Int))), (2, V.d (D.int IntKind.i64 (16 : Int)))] [] 7)) (fun K => by kernel_rfl) ?_
      refine ⟨x / 65536, [], ⟨by omega, by omega⟩, ?_⟩
      (constructor <;> simp [hl, envOk, memOk, conv, St.get, St.blk])
      omega
    · simp at e
      exact ⟨by omega, Nat.le_refl _⟩
    · (constructor <;> simp [hl, envOk, memOk, conv, St.get, St.blk])
  intro y ⟨hy, hb⟩
  refine awp_cut (ι := Nat) (fun z => ⟨[(0, .d (.int .u32 z)), (2, .d (.int .i64 (blen x - blen z : Nat)))], [], 12⟩) (fun z => z < 256 ∧ blen z ≤ blen x) ?_ ?_
  · refine awp_sx prog_ok hP hnt [] [] [] [0, 2, 8] (by kernel_rfl) (G := fun K => K (St.mk [(0, V.d (D.int IntKind.u32 (↑y : Int))), (2, V.d (D.int IntKind.i64 (↑(blen x - blen y) : Int))), (8, V.d (D.bool (decide ((↑y : Int) ≥ (256 : Int)))))] [] 10)) (fun K => by kernel_rfl) ?_
    refine awp_cond rfl (fun e => ?_) (fun e => awp_skip ⟨y, [], ?_, ?_⟩)
    · simp at e
      have hs := blen_shift (n := y) (k := 8) (by omega)
      rw [show y / 2 ^ 8 = y / 256 from rfl] at hs
      have hw : (y : Int).fdiv (2 ^ 8) = (y / 256 : Nat) := fdivN y 8
      refine awp_sx prog_ok hP hnt [(10, .int .u32 (y / 256 : Nat))] [] [] [0, 2] (by kernel_rfl) (G := fun K => (0 : Int) ≤ (8 : Int) ∧ (↑y : Int).fdiv ((2 : Int) ^ min (Int.toNat (8 : Int)) IntKind.u32.bits) = (↑(y / 256) : Int) ∧ K (St.mk [(0, V.d (D.int IntKind.u32 (↑(y / 256) : Int))), (2, V.d (D.int IntKind.i64 (↑(blen x - blen y) : Int)))] [] 13)) (fun K => by kernel_rfl) ?_
      refine ⟨by omega, hw, ?_⟩
      refine awp_x prog_ok hP hnt [(12, .int .i64 (blen x - blen (y / 256) : Nat))] [] [] [0, 2] (by kernel_rfl) (G := fun K => IntKind.i64.wrap ((↑(blen x - blen y) : Int) + (8 : Int)) = (↑(blen x - blen (y / 256)) : Int) ∧ K (St.mk [(0, V.d (D.int IntKind.u32 (↑(y / 256) : Int))), (2, V.d (D.int IntKind.i64 (↑(blen x - blen (y / 256)) : Int)))] [] 16)) (fun K => by kernel_rfl) ?_
      refine ⟨by rw [w64] <;> omega, y / 256, [], ⟨by omega, by omega⟩, ?_⟩
      (constructor <;> simp [hl, envOk, memOk, conv, St.get, St.blk])
    · simp at e
      exact ⟨by omega, hb⟩
    · (constructor <;> simp [hl, envOk, memOk, conv, St.get, St.blk])
  intro z ⟨hz, hb⟩
  have hz8 : blen z ≤ 8 := blen_iff.2 (by omega)
  refine awp_sx prog_ok hP hnt [(15, .int .u8 z), (17, .int .i64 (blen z)), (18, .int .i64 (blen x))] [] [] [2] (by kernel_rfl) (G := fun K => IntKind.u8.wrap (z : Int) = z ∧ ∃ b, Try.prog.underlying 9 = some .string ∧ 0 ≤ (z : Int) ∧ len8[(z : Int).toNat]? = some b ∧ IntKind.i64.wrap (b.toNat : Int) = blen z ∧ IntKind.i64.wrap ((blen x - blen z : Nat) + (blen z : Int)) = blen x ∧ K (St.mk [(2, V.d (D.int IntKind.i64 (blen x)))] [] 19)) (fun K => by kernel_rfl) ?_
  refine ⟨IntWalk.u8_in _ (by omega), UInt8.ofNat (blen z), rfl, by omega, len8_eq z hz, ?_, by rw [w64] <;> omega, ?_⟩
  · rw [UInt8.toNat_ofNat', w64] <;> omega
  · exact awp_ret ⟨.inl rfl, retD rfl⟩

theorem lz32_fn (x : Nat) (hx : x < 4294967296) : Fn Try.prog 248 [.d (.int .u32 x)] [] (.d (.int .i64 (32 - blen x : Nat))) [] := by
  refine fn0 (nt := 6) (res := [.tmp 2]) Try.func248 rfl (by decide) rfl rfl rfl rfl ?_
  intro Cx hP hnt hl
  have h32 : blen x ≤ 32 := blen_iff.2 hx
  refine awp_sx prog_ok hP hnt [] [] [] [0] (by kernel_rfl) (G := fun K => K (St.mk [(0, V.d (D.int IntKind.u32 (↑x : Int)))] [] 1)) (fun K => by kernel_rfl) ?_
  refine awp_sx prog_ok hP hnt [(5, .int .i64 (32 - blen x : Nat))] [.val (.d (.int .i64 (blen x)))] [] [2] (by kernel_rfl) (G := fun K => Fn Try.prog 246 [V.d (D.int IntKind.u32 (↑x : Int))] [] (V.d (D.int IntKind.i64 (↑(blen x) : Int))) [] ∧ IntKind.i64.wrap ((32 : Int) - (↑(blen x) : Int)) = (↑(32 - blen x) : Int) ∧ K (St.mk [(2, V.d (D.int IntKind.i64 (↑(32 - blen x) : Int)))] [] 5)) (fun K => by kernel_rfl) ?_
  exact ⟨len32_fn x hx, by rw [w64] <;> omega, awp_ret ⟨.inl rfl, retD rfl⟩⟩

theorem or_lt {a b s : Nat} (h : b < 2 ^ s) : a * 2 ^ s ||| b = a * 2 ^ s + b := by
  rw [← Nat.shiftLeft_eq, Nat.shiftLeft_add_eq_or_of_lt h]
theorem or_u64 {x y : Nat} (hx : x < 2 ^ 64) (hy : y < 2 ^ 64) : IntKind.u64.wrap (BitVec.ofInt IntKind.u64.bits (x : Int) ||| BitVec.ofInt IntKind.u64.bits (y : Int)).toNat = (x ||| y : Nat) := by
  have h : (x ||| y) < 2 ^ 64 := Nat.or_lt_two_pow hx hy
  show IntKind.u64.wrap (BitVec.ofInt 64 (x : Int) ||| BitVec.ofInt 64 (y : Int)).toNat = _
  rw [BitVec.toNat_or, BitVec.ofInt_natCast, BitVec.ofInt_natCast, BitVec.toNat_ofNat, BitVec.toNat_ofNat, Nat.mod_eq_of_lt hx, Nat.mod_eq_of_lt hy]
  exact u64w (by omega) (by omega)
theorem or_u32 {x y : Nat} (hx : x < 2 ^ 32) (hy : y < 2 ^ 32) : IntKind.u32.wrap (BitVec.ofInt IntKind.u32.bits (x : Int) ||| BitVec.ofInt IntKind.u32.bits (y : Int)).toNat = (x ||| y : Nat) := by
  have h : (x ||| y) < 2 ^ 32 := Nat.or_lt_two_pow hx hy
  show IntKind.u32.wrap (BitVec.ofInt 32 (x : Int) ||| BitVec.ofInt 32 (y : Int)).toNat = _
  rw [BitVec.toNat_or, BitVec.ofInt_natCast, BitVec.ofInt_natCast, BitVec.toNat_ofNat, BitVec.toNat_ofNat, Nat.mod_eq_of_lt hx, Nat.mod_eq_of_lt hy]
  exact u32w (by omega) (by omega)
theorem shl32 {x : Nat} (h : x < 4294967296) : IntKind.u64.wrap ((x : Int) * 2 ^ (min (Int.toNat 32) IntKind.u64.bits)) = (x * 4294967296 : Nat) := by
  rw [show min (Int.toNat 32) IntKind.u64.bits = 32 from rfl, u64w] <;> omega
theorem or_u64' {x y z : Nat} (hx : x < 18446744073709551616) (hy : y < 18446744073709551616) (h : (x ||| y) = z) : IntKind.u64.wrap (BitVec.ofInt IntKind.u64.bits (x : Int) ||| BitVec.ofInt IntKind.u64.bits (y : Int)).toNat = z := by
  rw [or_u64 hx hy, h]

theorem or_w {h l : Nat} (h1 : h < 4294967296) (h2 : l < 4294967296) : IntKind.u64.wrap (BitVec.ofInt IntKind.u64.bits ((h * 4294967296 : Nat) : Int) ||| BitVec.ofInt IntKind.u64.bits (l : Int)).toNat = (h * 4294967296 + l : Nat) :=
  or_u64' (by omega) (by omega) (or_lt (a := h) (s := 32) h2)

theorem div32_fn (h l d : Nat) (hd : h < d) (hl0 : l < 4294967296) (hd2 : d < 4294967296) : Fn Try.prog 260 [.d (.int .u32 h), .d (.int .u32 l), .d (.int .u32 d)] []
    (.tup [.d (.int .u32 ((h * 4294967296 + l) / d : Nat)), .d (.int .u32 ((h * 4294967296 + l) % d : Nat))]) [] := by
  refine fn0 (nt := 33) (res := [.tmp 6, .tmp 7]) Try.func260 rfl (by decide) rfl rfl rfl rfl ?_
  intro Cx hP hnt hl
  refine awp_sx prog_ok hP hnt [] [] [] [0, 1, 2] (by kernel_rfl) (G := fun K => K (St.mk [(0, V.d (D.int IntKind.u32 (↑h : Int))), (1, V.d (D.int IntKind.u32 (↑l : Int))), (2, V.d (D.int IntKind.u32 (↑d : Int)))] [] 2)) (fun K => by kernel_rfl) ?_
  refine awp_cut (ι := Unit) (fun _ => ⟨[(0, .d (.int .u32 h)), (1, .d (.int .u32 l)), (2, .d (.int .u32 d))], [], 9⟩) (fun _ => True) ?_ ?_
  · refine awp_sx prog_ok hP hnt [(10, .bool true), (14, .bool false)] [] [] [0, 1, 2, 15] (by kernel_rfl) (G := fun K => ((↑d : Int) != (0 : Int)) = true ∧ decide ((↑d : Int) ≤ (↑h : Int)) = false ∧ K (St.mk [(0, V.d (D.int IntKind.u32 (↑h : Int))), (1, V.d (D.int IntKind.u32 (↑l : Int))), (2, V.d (D.int IntKind.u32 (↑d : Int))), (15, V.d (D.bool false))] [] 9)) (fun K => by kernel_rfl) ?_
    refine ⟨by simp; omega, by simp; omega, awp_cond (b := false) rfl nofun fun _ => awp_skip ⟨(), [], trivial, ?_⟩⟩
    (constructor <;> simp [hl, envOk, memOk, conv, St.get, St.blk])
  intro _ _
  have e0 : h * 4294967296 + l < 18446744073709551616 := by omega
  have e1 := shl32 (x := h) (by omega)
  have e2 := or_w (h := h) (l := l) (by omega) hl0
  have hdp : 0 < d := by omega
  refine awp_sx prog_ok hP hnt [(18, .int .u64 h), (19, .int .u64 (h * 4294967296 : Nat)), (21, .int .u64 l), (22, .int .u64 (h * 4294967296 + l : Nat))] [] [] [2, 8] (by kernel_rfl) (G := fun K => IntKind.u64.wrap (↑h : Int) = (↑h : Int) ∧ (0 : Int) ≤ (32 : Int) ∧ IntKind.u64.wrap ((↑h : Int) * (2 : Int) ^ min (Int.toNat (32 : Int)) IntKind.u64.bits) = (↑(h * 4294967296) : Int) ∧ IntKind.u64.wrap (↑l : Int) = (↑l : Int) ∧ IntKind.u64.wrap (↑(BitVec.ofInt IntKind.u64.bits (↑(h * 4294967296) : Int) ||| BitVec.ofInt IntKind.u64.bits (↑l : Int)).toNat : Int) = (↑(h * 4294967296 + l) : Int) ∧ K (St.mk [(2, V.d (D.int IntKind.u32 (↑d : Int))), (8, V.d (D.int IntKind.u64 (↑(h * 4294967296 + l) : Int)))] [] 16)) (fun K => by kernel_rfl) ?_
  refine ⟨u64w (by omega) (by omega), by omega, e1, u64w (by omega) (by omega), e2, ?_⟩
  obtain ⟨n, hn⟩ : ∃ n, n = h * 4294967296 + l := ⟨_, rfl⟩
  rw [← hn] at e0 ⊢
  have hq : n / d < 4294967296 := by
    rw [Nat.div_lt_iff_lt_mul hdp, hn]
    have : (h + 1) * 4294967296 ≤ d * 4294967296 := Nat.mul_le_mul_right _ hd
    omega
  have hr : n % d < d := Nat.mod_lt _ hdp
  have et : ((n : Int).tdiv (d : Int)) = (n / d : Nat) := rfl
  have er : ((n : Int).tmod (d : Int)) = (n % d : Nat) := rfl
  obtain ⟨q, hq0⟩ : ∃ q, q = n / d := ⟨_, rfl⟩
  obtain ⟨r, hr0⟩ : ∃ r, r = n % d := ⟨_, rfl⟩
  rw [← hq0] at hq et ⊢
  rw [← hr0] at hr er ⊢
  refine awp_sx prog_ok hP hnt [(25, .int .u64 d), (26, .int .u64 (q : Nat)), (27, .int .u32 (q : Nat)), (30, .int .u64 d), (31, .int .u64 (r : Nat)), (32, .int .u32 (r : Nat))] [] [] [6, 7] (by kernel_rfl) (G := fun K => IntKind.u64.wrap (↑d : Int) = (↑d : Int) ∧ (↑d : Int) ≠ (0 : Int) ∧ IntKind.u64.wrap ((↑n : Int).tdiv (↑d : Int)) = (↑q : Int) ∧ IntKind.u32.wrap (↑q : Int) = (↑q : Int) ∧ IntKind.u64.wrap (↑d : Int) = (↑d : Int) ∧ (↑d : Int) ≠ (0 : Int) ∧ (↑n : Int).tmod (↑d : Int) = (↑r : Int) ∧ IntKind.u32.wrap (↑r : Int) = (↑r : Int) ∧ K (St.mk [(6, V.d (D.int IntKind.u32 (↑q : Int))), (7, V.d (D.int IntKind.u32 (↑r : Int)))] [] 28)) (fun K => by kernel_rfl) ?_
  refine ⟨u64w (by omega) (by omega), by omega, by rw [et]; exact u64w (by omega) (by omega), u32w (by omega) (by omega), u64w (by omega) (by omega), by omega, er, u32w (by omega) (by omega), awp_ret ⟨.inl rfl, ret2 rfl rfl⟩⟩

theorem div64_fn (n d : Nat) (hd : 0 < d) (hn : n < 18446744073709551616) (hd2 : d < 18446744073709551616) : Fn Try.prog 249 [.d (.int .u64 0), .d (.int .u64 n), .d (.int .u64 d)] []
    (.tup [.d (.int .u64 (n / d : Nat)), .d (.int .u64 (n % d : Nat))]) [] := by
  refine fn0 (nt := 135) (res := [.tmp 6, .tmp 7]) Try.func249 rfl (by decide) rfl rfl rfl rfl ?_
  intro Cx hP hnt hl
  refine awp_sx prog_ok hP hnt [] [] [] [0, 1, 2] (by kernel_rfl) (G := fun K => K (St.mk [(0, V.d (D.int IntKind.u64 (0 : Int))), (1, V.d (D.int IntKind.u64 (↑n : Int))), (2, V.d (D.int IntKind.u64 (↑d : Int)))] [] 2)) (fun K => by kernel_rfl) ?_
  refine awp_cut (ι := Unit) (fun _ => ⟨[(0, .d (.int .u64 0)), (1, .d (.int .u64 n)), (2, .d (.int .u64 d))], [], 9⟩) (fun _ => True) ?_ ?_
  · refine awp_sx prog_ok hP hnt [(20, .bool false)] [] [] [0, 1, 2, 20] (by kernel_rfl) (G := fun K => ((↑d : Int) == (0 : Int)) = false ∧ K (St.mk [(0, V.d (D.int IntKind.u64 (0 : Int))), (1, V.d (D.int IntKind.u64 (↑n : Int))), (2, V.d (D.int IntKind.u64 (↑d : Int))), (20, V.d (D.bool false))] [] 4)) (fun K => by kernel_rfl) ?_
    refine ⟨by simp; omega, awp_cond (b := false) rfl nofun fun _ => awp_skip ⟨(), [], trivial, ?_⟩⟩
    (constructor <;> simp [hl, envOk, memOk, conv, St.get, St.blk])
  intro _ _
  refine awp_cut (ι := Unit) (fun _ => ⟨[(0, .d (.int .u64 0)), (1, .d (.int .u64 n)), (2, .d (.int .u64 d))], [], 9⟩) (fun _ => True) ?_ ?_
  · refine awp_sx prog_ok hP hnt [(24, .bool false)] [] [] [0, 1, 2, 24] (by kernel_rfl) (G := fun K => decide ((↑d : Int) ≤ (0 : Int)) = false ∧ K (St.mk [(0, V.d (D.int IntKind.u64 (0 : Int))), (1, V.d (D.int IntKind.u64 (↑n : Int))), (2, V.d (D.int IntKind.u64 (↑d : Int))), (24, V.d (D.bool false))] [] 12)) (fun K => by kernel_rfl) ?_
    refine ⟨by simp; omega, awp_cond (b := false) rfl nofun fun _ => awp_skip ⟨(), [], trivial, ?_⟩⟩
    (constructor <;> simp [hl, envOk, memOk, conv, St.get, St.blk])
  intro _ _
  have et : ((n : Int).tdiv (d : Int)) = (n / d : Nat) := rfl
  have er : ((n : Int).tmod (d : Int)) = (n % d : Nat) := rfl
  have hq : n / d ≤ n := Nat.div_le_self _ _
  obtain ⟨q, hq0⟩ : ∃ q, q = n / d := ⟨_, rfl⟩
  obtain ⟨r, hr0⟩ : ∃ r, r = n % d := ⟨_, rfl⟩
  rw [← hq0] at hq et ⊢
  rw [← hr0] at er ⊢
  refine awp_seq_k fun K hK => ?_
  refine awp_sx prog_ok hP hnt [(27, .bool true)] [] [] [0, 1, 2, 27] (by kernel_rfl) (G := fun K => ((0 : Int) == (0 : Int)) = true ∧ K (St.mk [(0, V.d (D.int IntKind.u64 (0 : Int))), (1, V.d (D.int IntKind.u64 (↑n : Int))), (2, V.d (D.int IntKind.u64 (↑d : Int))), (27, V.d (D.bool true))] [] 11)) (fun K => by kernel_rfl) ?_
  refine ⟨rfl, awp_cond (b := true) rfl (fun _ => ?_) nofun⟩
  refine awp_sx prog_ok hP hnt [(30, .int .u64 (q : Nat)), (33, .int .u64 (r : Nat))] [] [] [6, 7] (by kernel_rfl) (G := fun K => (↑d : Int) ≠ (0 : Int) ∧ IntKind.u64.wrap ((↑n : Int).tdiv (↑d : Int)) = (↑q : Int) ∧ (↑d : Int) ≠ (0 : Int) ∧ (↑n : Int).tmod (↑d : Int) = (↑r : Int) ∧ K (St.mk [(6, V.d (D.int IntKind.u64 (↑q : Int))), (7, V.d (D.int IntKind.u64 (↑r : Int)))] [] 19)) (fun K => by kernel_rfl) ?_
  exact ⟨by omega, by rw [et]; exact u64w (by omega) (by omega), by omega, er, awp_ret ⟨.inl rfl, ret2 rfl rfl⟩⟩
end Go.Abs

set_option linter.unusedVariables false
set_option linter.unusedSimpArgs false
namespace Go.Abs
open Go
variable {P : Program}

/-- less known of a made block -/
theorem Fn.out_take {f : Nat} {args : List V} {lent : List (Nat × Blk)} {r : V} {b : Nat} {cells : List D} {l : Bool} (h : Fn P f args lent r [(b, ⟨cells, l⟩)]) (n : Nat) : Fn P f args lent r [(b, ⟨cells.take n, l⟩)] := by
  refine ⟨h.1, fun w ok β vs hok hs hr hl hi => ?_⟩
  refine (h.2 w ok β vs hok hs hr hl hi).mono ?_
  rintro e w' ⟨v, ok', β', rfl, hc⟩
  refine ⟨v, ok', β', rfl, hc.os, hc.tape, hc.output, hc.size, hc.keep, hc.shape, hc.lo, hc.hi, hc.lt, hc.res, hc.same, fun x kx hx => ?_, fun x y kx ky B hx hy h1 h2 => ?_⟩
  · simp at hx
    obtain ⟨rfl, rfl⟩ := hx
    rcases hc.made x _ (List.mem_singleton.2 rfl) with ⟨h1, h2⟩ | ⟨B, h1, h2, h3⟩
    · simp at h2; exact .inl ⟨h1, by simp [h2]⟩
    · obtain ⟨arr, T, g1, g2, g3, g4, g5⟩ := h2
      refine .inr ⟨B, h1, ⟨arr, T, g1, ?_, fun i d hd => g3 i d ?_, g4, g5⟩, h3⟩
      · simp at g2 ⊢; omega
      · simp at hd ⊢
        rw [List.getElem?_take] at hd
        split at hd
        · exact hd
        · cases hd
  · simp at hx hy
    rw [hx.1, hy.1]

/-- a made row, told as plain data -/
theorem Fn.freeze {f : Nat} {args : List V} {b off n sz : Nat} {cells : List D} (h : Fn P f args [] (.own b off n sz) [(b, ⟨cells, true⟩)]) : Fn P f args [] (.d (.lst n ((cells.drop off).take (n * sz)))) [] := by
  refine ⟨h.1, fun w ok β vs hok hs hr hl hi => ?_⟩
  refine (h.2 w ok β vs hok hs hr hl hi).mono ?_
  rintro e w' ⟨v, ok', β', rfl, hc⟩
  have hres := hc.res
  simp only [RepV] at hres
  obtain ⟨A, c, rfl, hn, hA⟩ := hres
  have base : ∀ ok'' : Nat → Prop, (∀ k, ok' k → ok'' k) → (∀ k, ok'' k → ok k ∨ w.heap.size ≤ k) → (∀ k, ok'' k → k < w'.heap.size) → RepL w'.heap ok'' A 0 ((cells.drop off).take (n * sz)) →
      ∃ v ok'' β'', Ending.returned (.slice A n c) = .returned v ∧ CallOk w ok β [] (.d (.lst n ((cells.drop off).take (n * sz)))) [] v w' ok'' β'' := fun ok'' h1 h2 h3 h4 =>
    ⟨_, ok'', β', rfl, hc.os, hc.tape, hc.output, hc.size, hc.keep, hc.shape, fun k hk => h1 k (hc.lo k hk), fun k hk => (h2 k hk).imp id .inr, h3, by simp only [RepV, RepD]; exact ⟨A, c, rfl, hn, h4⟩, by simp, by simp, by simp⟩
  have hhi : ∀ k, ok' k → ok k ∨ w.heap.size ≤ k := fun k hk => by
    rcases hc.hi k hk with h1 | ⟨_, _, h1, _⟩ | h1
    · exact .inl h1
    · simp at h1
    · exact .inr h1
  rcases hA with ⟨rfl, rfl⟩ | ⟨B, arr, T, rfl, e2, e3, e4⟩
  · refine base ok' (fun _ h => h) hhi hc.lt ?_
    have : n = 0 := by omega
    subst this
    simp [RepL]
  · rcases hc.made b _ (List.mem_singleton.2 rfl) with ⟨h1, h2⟩ | ⟨B', h1, h2, h3⟩
    · rw [h1] at e2; cases e2
    · rw [h1] at e2
      cases e2
      obtain ⟨arr', T', g1, g2, g3, g4, g5⟩ := h2
      have hB : w.heap.size ≤ B := by
        rcases h3 with ⟨_, _, h3, _⟩ | h3
        · simp at h3
        · exact h3
      have hB2 : B < w'.heap.size := (Array.getElem?_eq_some_iff.1 g1).1
      refine base (fun k => ok' k ∨ k = B) (fun _ h => .inl h) (fun k hk => ?_) (fun k hk => ?_) ?_
      · rcases hk with hk | rfl
        · exact hhi k hk
        · exact .inr hB
      · rcases hk with hk | rfl
        · exact hc.lt k hk
        · exact hB2
      · rw [RepL_iff]
        intro i d hd
        rw [List.getElem?_take] at hd
        split at hd
        · rw [List.getElem?_drop] at hd
          obtain ⟨u, hu, hr2⟩ := g3 _ d hd
          exact ⟨B, off, u, rfl, .inr rfl, ⟨arr', T', _, g1, by simpa using hu⟩, RepD.keep ⟨fun _ _ => rfl, fun _ h => .inl h⟩ d u hr2⟩
        · cases hd

/-- a function that holds a label, and whose run jumps to none -/
theorem awp_scope {C : Ctx} {c : Code} {s : St} {R : St → Prop} (h : AWP C c s (fun e s' => (e = .ret ∨ e = .normal) ∧ R s')) : AWP C (.scope c) s (fun e s' => (e = .ret ∨ e = .normal) ∧ R s') := fun a w hS => by
  refine wp_scope_straight (Code.wp_mono (fun e a' w' hq => ?_) (h a w hS))
  obtain ⟨s', ⟨he, hr⟩, h2⟩ := hq
  rcases he with rfl | rfl
  · exact ⟨s', ⟨.inl rfl, hr⟩, h2⟩
  · exact ⟨s', ⟨.inr rfl, hr⟩, h2⟩
end Go.Abs

set_option linter.unusedVariables false
set_option linter.unusedSimpArgs false
namespace Go.Abs
open Go Go.Proofs
set_option maxRecDepth 100000

theorem dig_len0 {n : Nat} : (dig n).length = 0 ↔ n = 0 := by rw [List.length_eq_zero_iff, dig_nil]
/-- the top digit -/
theorem dig_top {n : Nat} (h : n ≠ 0) : ∃ t, (dig n)[(dig n).length - 1]? = some t ∧ t ≠ 0 ∧ t < 4294967296 ∧ t = n / 4294967296 ^ ((dig n).length - 1) := by
  have hp : 0 < (dig n).length := by have := mt dig_len0.1 h; omega
  obtain ⟨t, ht⟩ := get_ex (l := dig n) (i := (dig n).length - 1) (by omega)
  have h1 := val_take_succ ht
  rw [show (dig n).length - 1 + 1 = (dig n).length by omega, List.take_of_length_le (Nat.le_refl _), val_dig] at h1
  have h2 := val_take_lt (dig_lt n) ((dig n).length - 1)
  have hq : t = n / 4294967296 ^ ((dig n).length - 1) := by
    obtain ⟨M, hM⟩ : ∃ M, M = (dig n).length - 1 := ⟨_, rfl⟩
    rw [← hM] at h1 h2 ⊢
    rw [h1, Nat.add_mul_div_left _ _ (Nat.pow_pos (by omega)), Nat.div_eq_of_lt h2]; omega
  have hge := dig_ge (n := n) (k := (dig n).length - 1) (by omega)
  refine ⟨t, ht, ?_, dig_get' t ht, hq⟩
  intro e
  subst e
  rw [Nat.mul_zero, Nat.add_zero] at h1
  omega
where dig_get' (t : Nat) (ht : (dig n)[(dig n).length - 1]? = some t) : t < 4294967296 := dg_get (dig_lt n) ht

theorem uint64_fn (l : List Nat) (h : l.length ≤ 2 ^ 40) (hd : Dg l) : Fn Try.prog 239 [.d (du l)] [] (.tup [.d (.int .u64 (if val l < 18446744073709551616 then val l else 0 : Nat)), .d (.bool (decide (val l < 18446744073709551616)))]) [] := by
  refine fn0 (nt := 28) (res := [.tmp 2, .tmp 3]) Try.func239 rfl (by decide) rfl rfl rfl rfl ?_
  intro Cx hP hnt hl
  have ht := trim_fn l (by omega) hd
  have hle := dig_le hd
  obtain ⟨n, hn⟩ : ∃ n, n = val l := ⟨_, rfl⟩
  rw [← hn] at ht hle ⊢
  refine awp_sx prog_ok hP hnt [] [] [] [0] (by kernel_rfl) (G := fun K => K (St.mk [(0, V.d (du l))] [] 2)) (fun K => by kernel_rfl) ?_
  refine awp_sx prog_ok hP hnt [] [.val (.d (du (dig n)))] [] [0] (by kernel_rfl) (G := fun K => Fn Try.prog 212 [V.d (du l)] [] (V.d (du (dig n))) [] ∧ K (St.mk [(0, V.d (du (dig n)))] [] 5)) (fun K => by kernel_rfl) ?_
  refine ⟨ht, ?_⟩
  refine awp_seq_k fun K hK => ?_
  refine awp_sx prog_ok hP hnt [] [] [] [0, 7] (by kernel_rfl) (G := fun K => K (St.mk [(0, V.d (du (dig n))), (7, V.d (D.int IntKind.i64 (↑(dig n).length : Int)))] [] 7)) (fun K => by kernel_rfl) ?_
  refine awp_block ?_
  refine awp_sx prog_ok hP hnt [] [] [] [0, 7, 8] (by kernel_rfl) (G := fun K => K (St.mk [(0, V.d (du (dig n))), (7, V.d (D.int IntKind.i64 (↑(dig n).length : Int))), (8, V.d (D.bool ((↑(dig n).length : Int) == (0 : Int))))] [] 9)) (fun K => by kernel_rfl) ?_
  by_cases h0 : n = 0
  · subst h0
    rw [dig_zero]
    refine awp_cond (b := true) rfl (fun _ => ?_) nofun
    refine awp_sx prog_ok hP hnt [] [] [] [2, 3] (by kernel_rfl) (G := fun K => K (St.mk [(2, V.d (D.int IntKind.u64 (0 : Int))), (3, V.d (D.bool true))] [] 11)) (fun K => by kernel_rfl) ?_
    exact awp_ret ⟨.inl rfl, ret2 rfl rfl⟩
  by_cases h1 : n < 4294967296
  · have hdg : dig n = [n] := by rw [dig_pos h0, Nat.mod_eq_of_lt h1, Nat.div_eq_of_lt h1, dig_zero]
    rw [hdg]
    refine awp_cond (b := false) rfl nofun fun _ => ?_
    refine awp_sx prog_ok hP hnt [] [] [] [0, 7, 10] (by kernel_rfl) (G := fun K => K (St.mk [(0, V.d (du [n])), (7, V.d (D.int IntKind.i64 (↑[n].length : Int))), (10, V.d (D.bool ((↑[n].length : Int) == (1 : Int))))] [] 11)) (fun K => by kernel_rfl) ?_
    refine awp_cond (b := true) rfl (fun _ => ?_) nofun
    refine awp_sx prog_ok hP hnt [(15, .int .u64 n)] [] [] [2, 3] (by kernel_rfl) (G := fun K => ((0 : Int) ≤ (0 : Int) ∧ (0 : Int) < (↑[n].length : Int) ∧ 1 ≤ (u32s [n]).length) ∧ IntKind.u64.wrap (↑n : Int) = (↑n : Int) ∧ K (St.mk [(2, V.d (D.int IntKind.u64 (↑n : Int))), (3, V.d (D.bool true))] [] 17)) (fun K => by kernel_rfl) ?_
    rw [if_pos (by omega), show decide (n < 18446744073709551616) = true from decide_eq_true (by omega)]
    exact ⟨⟨by omega, by simp, by simp⟩, u64w (by omega) (by omega), awp_ret ⟨.inl rfl, ret2 rfl rfl⟩⟩
  by_cases h2 : n < 18446744073709551616
  · have hd1 : n / 4294967296 ≠ 0 := by omega
    have hd2 : n / 4294967296 < 4294967296 := by omega
    have hdg : dig n = [n % 4294967296, n / 4294967296] := by rw [dig_pos h0, dig_pos hd1, Nat.mod_eq_of_lt hd2, Nat.div_eq_of_lt hd2, dig_zero]
    rw [hdg]
    refine awp_cond (b := false) rfl nofun fun _ => ?_
    refine awp_sx prog_ok hP hnt [] [] [] [0, 7, 10] (by kernel_rfl) (G := fun K => K (St.mk [(0, V.d (du [n % 4294967296, n / 4294967296])), (7, V.d (D.int IntKind.i64 (↑[n % 4294967296, n / 4294967296].length : Int))), (10, V.d (D.bool ((↑[n % 4294967296, n / 4294967296].length : Int) == (1 : Int))))] [] 11)) (fun K => by kernel_rfl) ?_
    refine awp_cond (b := false) rfl nofun fun _ => ?_
    refine awp_sx prog_ok hP hnt [] [] [] [0, 16] (by kernel_rfl) (G := fun K => K (St.mk [(0, V.d (du [n % 4294967296, n / 4294967296])), (16, V.d (D.bool ((↑[n % 4294967296, n / 4294967296].length : Int) == (2 : Int))))] [] 13)) (fun K => by kernel_rfl) ?_
    refine awp_cond (b := true) rfl (fun _ => ?_) nofun
    have e1 := shl32 hd2
    have e2 := or_w hd2 (show n % 4294967296 < 4294967296 by omega)
    rw [show n / 4294967296 * 4294967296 + n % 4294967296 = n by omega] at e2
    refine awp_sx prog_ok hP hnt [(21, .int .u64 (n / 4294967296 : Nat)), (22, .int .u64 (n / 4294967296 * 4294967296 : Nat)), (26, .int .u64 (n % 4294967296 : Nat)), (27, .int .u64 n)] [] [] [2, 3] (by kernel_rfl) (G := fun K => ((0 : Int) ≤ (1 : Int) ∧ (1 : Int) < (↑[n % 4294967296, n / 4294967296].length : Int) ∧ 2 ≤ (u32s [n % 4294967296, n / 4294967296]).length) ∧ IntKind.u64.wrap (↑(n / 4294967296) : Int) = (↑(n / 4294967296) : Int) ∧ (0 : Int) ≤ (32 : Int) ∧ IntKind.u64.wrap ((↑(n / 4294967296) : Int) * (2 : Int) ^ min (Int.toNat (32 : Int)) IntKind.u64.bits) = (↑(n / 4294967296 * 4294967296) : Int) ∧ ((0 : Int) ≤ (0 : Int) ∧ (0 : Int) < (↑[n % 4294967296, n / 4294967296].length : Int) ∧ 1 ≤ (u32s [n % 4294967296, n / 4294967296]).length) ∧ IntKind.u64.wrap (↑(n % 4294967296) : Int) = (↑(n % 4294967296) : Int) ∧ IntKind.u64.wrap (↑(BitVec.ofInt IntKind.u64.bits (↑(n / 4294967296 * 4294967296) : Int) ||| BitVec.ofInt IntKind.u64.bits (↑(n % 4294967296) : Int)).toNat : Int) = (↑n : Int) ∧ K (St.mk [(2, V.d (D.int IntKind.u64 (↑n : Int))), (3, V.d (D.bool true))] [] 25)) (fun K => by kernel_rfl) ?_
    rw [if_pos (by omega), show decide (n < 18446744073709551616) = true from decide_eq_true (by omega)]
    exact ⟨⟨by omega, by simp, by simp⟩, u64w (by omega) (by omega), by omega, e1, ⟨by omega, by simp, by simp⟩, u64w (by omega) (by omega), e2, awp_ret ⟨.inl rfl, ret2 rfl rfl⟩⟩
  · have hlen : 3 ≤ (dig n).length := by
      rcases Nat.lt_or_ge (dig n).length 3 with h | h
      · have := dig_lt_of_len (n := n) (k := 2) (by omega)
        omega
      · exact h
    obtain ⟨N, hN⟩ : ∃ N, N = (dig n).length := ⟨_, rfl⟩
    rw [← hN]
    rw [← hN] at hlen
    refine awp_cond (b := ((N : Int) == 0)) rfl (fun e => by simp at e; omega) fun _ => ?_
    refine awp_sx prog_ok hP hnt [] [] [] [0, 7, 10] (by kernel_rfl) (G := fun K => K (St.mk [(0, V.d (du (dig n))), (7, V.d (D.int IntKind.i64 (↑N : Int))), (10, V.d (D.bool ((↑N : Int) == (1 : Int))))] [] 11)) (fun K => by kernel_rfl) ?_
    refine awp_cond (b := ((N : Int) == 1)) rfl (fun e => by simp at e; omega) fun _ => ?_
    refine awp_sx prog_ok hP hnt [] [] [] [0, 16] (by kernel_rfl) (G := fun K => K (St.mk [(0, V.d (du (dig n))), (16, V.d (D.bool ((↑N : Int) == (2 : Int))))] [] 13)) (fun K => by kernel_rfl) ?_
    refine awp_cond (b := ((N : Int) == 2)) rfl (fun e => by simp at e; omega) fun _ => awp_skip (hK _ ?_)
    refine awp_sx prog_ok hP hnt [] [] [] [2, 3] (by kernel_rfl) (G := fun K => K (St.mk [(2, V.d (D.int IntKind.u64 (0 : Int))), (3, V.d (D.bool false))] [] 15)) (fun K => by kernel_rfl) ?_
    rw [if_neg h2, show decide (n < 18446744073709551616) = false from decide_eq_false h2]
    exact awp_ret ⟨.inl rfl, ret2 rfl rfl⟩

/-- trim of digits that are the call's own -/
theorem trimO_fn (l : List Nat) (h : l.length ≤ 2 ^ 40) (hd : Dg l) (b : Nat) : Fn Try.prog 212 [.own b 0 l.length 1] [(b, ⟨u32s l, true⟩)] (.own b 0 (dig (val l)).length 1) [(b, ⟨u32s l, true⟩)] := by
  refine Fn.lend_ren ?_ b
  refine fn_intro prog_ok (nx := 1) (res := [.tmp 2]) Try.func212 rfl (by decide) (by show 1 ≤ 23; omega) rfl (by simp) (by simp [V.refsL, V.refs]) ?_
  intro Cx hP hnt0 hl
  have hnt : Cx.nt = 23 := hnt0
  simp only [List.map_cons, List.map_nil] at hl ⊢
  refine awp_sx prog_ok hP hnt [] [] [] [0] (by kernel_rfl) (G := fun K => K (St.mk [(0, V.own 0 0 l.length 1)] [(0, some (Blk.mk (u32s l) true))] 2)) (fun K => by kernel_rfl) ?_
  refine awp_sx prog_ok hP hnt [] [] [] [0, 3] (by kernel_rfl) (G := fun K => K (St.mk [(0, V.own 0 0 l.length 1), (3, V.d (D.int IntKind.i64 (↑l.length : Int)))] [(0, some (Blk.mk (u32s l) true))] 5)) (fun K => by kernel_rfl) ?_
  have hfin : ∀ n, n ≤ l.length → l.take n = dig (val l) → n = (dig (val l)).length := fun n hn e => by rw [← e, List.length_take]; omega
  refine awp_cut (ι := Unit) (fun _ => ⟨[(0, .own 0 0 l.length 1), (3, .d (.int .i64 (dig (val l)).length))], [(0, some ⟨u32s l, true⟩)], 1⟩) (fun _ => True) ?_ ?_
  · refine awp_block ?_
    refine awp_loop (ι := Nat) (fun n => ⟨[(0, .own 0 0 l.length 1), (3, .d (.int .i64 n))], [(0, some ⟨u32s l, true⟩)], 1⟩) (fun n => n ≤ l.length ∧ val (l.take n) = val l) (fun n => n) l.length [(0, 0)] ⟨Nat.le_refl _, by simp⟩ ?_ ?_
    · (constructor <;> simp [hl, envOk, memOk, conv, St.get, St.blk])
    intro n ⟨hn, ht⟩
    refine awp_seq_k fun K2 hK2 => ?_
    by_cases h0 : n = 0
    · subst h0
      refine awp_sx prog_ok hP hnt [(8, .bool false)] [] [] [0, 3, 15] (by kernel_rfl) (G := fun K => decide ((↑0 : Int) > (0 : Int)) = false ∧ K (St.mk [(0, V.own 0 0 l.length 1), (3, V.d (D.int IntKind.i64 (↑0 : Int))), (15, V.d (D.bool false))] [(0, some (Blk.mk (u32s l) true))] 11)) (fun K => by kernel_rfl) ?_
      refine ⟨rfl, awp_cond (b := false) rfl nofun fun _ => awp_exit ⟨(), [(0, 0)], trivial, ?_⟩⟩
      have := hfin 0 (by omega) (by rw [← ht]; simp [val, dig_zero])
      rw [← this]
      (constructor <;> simp [hl, envOk, memOk, conv, St.get, St.blk])
    · obtain ⟨x, h3⟩ := get_ex (l := l) (i := n - 1) (by omega)
      have h4 := val_take_succ h3
      rw [show n - 1 + 1 = n by omega] at h4
      refine awp_sx prog_ok hP hnt [(8, .bool true), (11, .int .i64 (n - 1 : Nat))] [] [some [.int .u32 x]] [0, 3, 15] (by kernel_rfl) (G := fun K => decide ((↑n : Int) > (0 : Int)) = true ∧ IntKind.i64.wrap ((↑n : Int) - (1 : Int)) = (↑(n - 1) : Int) ∧ ((0 : Int) ≤ (↑(n - 1) : Int) ∧ (↑(n - 1) : Int) < (↑l.length : Int)) ∧ (u32s l)[0 + (↑(n - 1) : Int).toNat * 1]? = some (D.int IntKind.u32 (↑x : Int)) ∧ K (St.mk [(0, V.own 0 0 l.length 1), (3, V.d (D.int IntKind.i64 (↑n : Int))), (15, V.d (D.bool ((↑x : Int) == (0 : Int))))] [(0, some (Blk.mk (u32s l) true))] 11)) (fun K => by kernel_rfl) ?_
      refine ⟨by simp; omega, by rw [w64] <;> omega, ⟨by omega, by omega⟩, by simp [h3], ?_⟩
      refine awp_cond (b := ((x : Int) == 0)) rfl (fun hb => awp_skip (hK2 _ ?_)) (fun hb => awp_exit ⟨(), [(0, 0)], trivial, ?_⟩)
      · refine awp_block ?_
        refine awp_x prog_ok hP hnt [(17, .int .i64 (n - 1 : Nat))] [] [] [0, 3] (by kernel_rfl) (G := fun K => IntKind.i64.wrap ((↑n : Int) - (1 : Int)) = (↑(n - 1) : Int) ∧ K (St.mk [(0, V.own 0 0 l.length 1), (3, V.d (D.int IntKind.i64 (↑(n - 1) : Int)))] [(0, some (Blk.mk (u32s l) true))] 14)) (fun K => by kernel_rfl) ?_
        refine ⟨by rw [w64] <;> omega, n - 1, [(0, 0)], ⟨⟨by omega, ?_⟩, by omega⟩, ?_⟩
        · simp at hb; subst hb; rw [← ht, h4]; simp
        · (constructor <;> simp [hl, envOk, memOk, conv, St.get, St.blk])
      · have := hfin n hn (by
          rw [← ht]
          refine can_dig (dg_take hd n) ?_
          simp at hb
          rw [List.getLast?_take, if_neg h0, h3]
          simpa using hb)
        rw [← this]
        (constructor <;> simp [hl, envOk, memOk, conv, St.get, St.blk])
  · intro _ _
    have hle := dig_le hd
    refine awp_seq_k fun K hK => ?_
    refine awp_sx prog_ok hP hnt [] [] [] [0, 3, 19] (by kernel_rfl) (G := fun K => K (St.mk [(0, V.own 0 0 l.length 1), (3, V.d (D.int IntKind.i64 (↑(dig (val l)).length : Int))), (19, V.d (D.bool ((↑(dig (val l)).length : Int) == (0 : Int))))] [(0, some (Blk.mk (u32s l) true))] 3)) (fun K => by kernel_rfl) ?_
    refine awp_cond rfl (fun hb => ?_) (fun hb => awp_skip (hK _ ?_))
    · refine awp_sx prog_ok hP hnt [] [] [] [2] (by kernel_rfl) (G := fun K => K (St.mk [(2, V.nil)] [(0, some (Blk.mk (u32s l) true))] 4)) (fun K => by kernel_rfl) ?_
      simp at hb
      rw [hb, List.length_nil]
      refine awp_weak [(0, 0)] ⟨[(2, .own 0 0 0 1)], [(0, some ⟨u32s l, true⟩)], 1⟩ ?_ (awp_ret ⟨.inl rfl, .inl ⟨rfl, rfl, trivial⟩⟩)
      (constructor <;> simp [hl, envOk, memOk, conv, St.get, St.blk])
    · refine awp_sx prog_ok hP hnt [] [] [] [2] (by kernel_rfl) (G := fun K => ((0 : Int) ≤ (↑(dig (val l)).length : Int) ∧ (↑(dig (val l)).length : Int) ≤ (↑l.length : Int)) ∧ K (St.mk [(2, V.own 0 0 (↑(dig (val l)).length : Int).toNat 1)] [(0, some (Blk.mk (u32s l) true))] 7)) (fun K => by kernel_rfl) ?_
      exact ⟨⟨by omega, by omega⟩, awp_ret ⟨.inl rfl, .inl ⟨rfl, rfl, trivial⟩⟩⟩

theorem set_rep (k x : Nat) (q : List Nat) : (List.replicate (k + 1) 0 ++ q).set k x = List.replicate k 0 ++ x :: q := by
  rw [List.replicate_succ', List.append_assoc, List.set_append_right _ _ (by simp)]
  simp

/-- division by one digit -/
theorem divsmall_fn (l : List Nat) (d : Nat) (h : l.length ≤ 2 ^ 40) (hd : Dg l) (h0 : 0 < d) (h1 : d < 4294967296) : Fn Try.prog 247 [.d (du l), .d (.int .u32 d)] []
    (.tup [.d (du (dig (val l / d))), .d (.int .u32 (val l % d : Nat)), .d (.bool true)]) [] := by
  refine fn0 (nt := 40) (res := [.tmp 4, .tmp 5, .tmp 6]) Try.func247 rfl (by decide) rfl rfl rfl rfl ?_
  intro Cx hP hnt hl
  have ht := trim_fn l (by omega) hd
  have hle := dig_le hd
  obtain ⟨n, hn⟩ : ∃ n, n = val l := ⟨_, rfl⟩
  rw [← hn] at ht hle ⊢
  refine awp_sx prog_ok hP hnt [] [] [] [0, 1] (by kernel_rfl) (G := fun K => K (St.mk [(0, V.d (du l)), (1, V.d (D.int IntKind.u32 (↑d : Int)))] [] 3)) (fun K => by kernel_rfl) ?_
  refine awp_seq_k fun K hK => ?_
  refine awp_sx prog_ok hP hnt [(11, .bool false)] [] [] [0, 1, 11] (by kernel_rfl) (G := fun K => ((↑d : Int) == (0 : Int)) = false ∧ K (St.mk [(0, V.d (du l)), (1, V.d (D.int IntKind.u32 (↑d : Int))), (11, V.d (D.bool false))] [] 5)) (fun K => by kernel_rfl) ?_
  refine ⟨by simp; omega, awp_cond (b := false) rfl nofun fun _ => awp_skip (hK _ ?_)⟩
  refine awp_sx prog_ok hP hnt [] [.val (.d (du (dig n)))] [] [0, 1] (by kernel_rfl) (G := fun K => Fn Try.prog 212 [V.d (du l)] [] (V.d (du (dig n))) [] ∧ K (St.mk [(0, V.d (du (dig n))), (1, V.d (D.int IntKind.u32 (↑d : Int)))] [] 8)) (fun K => by kernel_rfl) ?_
  refine ⟨ht, ?_⟩
  have hlen : (dig n).length ≤ 2 ^ 40 := by omega
  have hvd := val_dig n
  have hDg := dig_lt n
  obtain ⟨L, hL⟩ : ∃ L, L = dig n := ⟨_, rfl⟩
  rw [← hL] at hlen hvd hDg ⊢
  refine awp_sx prog_ok hP hnt [] [] [] [0, 1, 7] (by kernel_rfl) (G := fun K => ((↑L.length : Int) = (↑L.length : Int) ∧ (0 : Int) ≤ (↑L.length : Int) ∧ (↑L.length : Int) * (↑4 : Int) ≤ (2 : Int) ^ 47) ∧ K (St.mk [(0, V.d (du L)), (1, V.d (D.int IntKind.u32 (↑d : Int))), (7, V.own 10 0 (↑L.length : Int).toNat 1)] [(10, some (Blk.mk (zeros (↑L.length : Int).toNat (TI.mk (Kind.int IntKind.u32) 1 4 [D.int IntKind.u32 (0 : Int)]).zero) true))] 12)) (fun K => by kernel_rfl) ?_
  refine ⟨⟨rfl, by omega, by omega⟩, ?_⟩
  refine awp_sx prog_ok hP hnt [] [] [] [0, 1, 7, 8] (by kernel_rfl) (G := fun K => K (St.mk [(0, V.d (du L)), (1, V.d (D.int IntKind.u32 (↑d : Int))), (7, V.own 10 0 (↑L.length : Int).toNat 1), (8, V.d (D.int IntKind.u32 (0 : Int)))] [(10, some (Blk.mk (zeros (↑L.length : Int).toNat (TI.mk (Kind.int IntKind.u32) 1 4 [D.int IntKind.u32 (0 : Int)]).zero) true))] 13)) (fun K => by kernel_rfl) ?_
  refine awp_cut (ι := List Nat) (fun q => ⟨[(7, .own 0 0 L.length 1), (8, .d (.int .u32 (n % d : Nat)))], [(0, some ⟨u32s q, true⟩)], 1⟩) (fun q => q.length = L.length ∧ Dg q ∧ val q = n / d) ?_ ?_
  · refine awp_sx prog_ok hP hnt [(19, .int .i64 ((L.length : Int) - 1))] [] [] [0, 1, 7, 8, 9] (by kernel_rfl) (G := fun K => IntKind.i64.wrap ((↑L.length : Int) - (1 : Int)) = (↑L.length : Int) - (1 : Int) ∧ K (St.mk [(0, V.d (du L)), (1, V.d (D.int IntKind.u32 (↑d : Int))), (7, V.own 10 0 (↑L.length : Int).toNat 1), (8, V.d (D.int IntKind.u32 (0 : Int))), (9, V.d (D.int IntKind.i64 ((↑L.length : Int) - (1 : Int))))] [(10, some (Blk.mk (zeros (↑L.length : Int).toNat (TI.mk (Kind.int IntKind.u32) 1 4 [D.int IntKind.u32 (0 : Int)]).zero) true))] 17)) (fun K => by kernel_rfl) ?_
    refine ⟨by rw [w64] <;> omega, ?_⟩
    refine awp_block ?_
    refine awp_loop (ι := Nat × List Nat × Nat) (fun ⟨k, q, r⟩ => ⟨[(0, .d (du L)), (1, .d (.int .u32 d)), (7, .own 0 0 L.length 1), (8, .d (.int .u32 r)), (9, .d (.int .i64 ((k : Int) - 1)))], [(0, some ⟨u32s (List.replicate k 0 ++ q), true⟩)], 1⟩)
      (fun ⟨k, q, r⟩ => k + q.length = L.length ∧ Dg q ∧ r < d ∧ val q * d + r = val (L.drop k)) (fun ⟨k, q, r⟩ => k) (L.length, [], 0) [(0, 10)] ?_ ?_ ?_
    · simp [Dg, val]; omega
    · rw [Int.toNat_natCast]
      (constructor <;> simp [hl, envOk, memOk, conv, St.get, St.blk, zeros_u32])
    rintro ⟨k, q, r⟩ ⟨hk, hq, hr, hv⟩
    refine awp_seq_k fun K1 hK1 => ?_
    refine awp_sx prog_ok hP hnt [] [] [] [0, 1, 7, 8, 9, 21] (by kernel_rfl) (G := fun K => K (St.mk [(0, V.d (du L)), (1, V.d (D.int IntKind.u32 (↑d : Int))), (7, V.own 0 0 L.length 1), (8, V.d (D.int IntKind.u32 (↑r : Int))), (9, V.d (D.int IntKind.i64 ((↑k : Int) - (1 : Int)))), (21, V.d (D.bool (decide ((↑k : Int) - (1 : Int) ≥ (0 : Int)))))] [(0, some (Blk.mk (u32s (List.replicate k 0 ++ q)) true))] 3)) (fun K => by kernel_rfl) ?_
    refine awp_cond rfl (fun e => awp_skip (hK1 _ ?_)) (fun e => awp_exit ⟨q, [(0, 0)], ?_, ?_⟩)
    · simp at e
      obtain ⟨j, rfl⟩ : ∃ j, k = j + 1 := ⟨k - 1, by omega⟩
      obtain ⟨x, hx⟩ := get_ex (l := L) (i := j) (by omega)
      have hx32 := dg_get hDg hx
      have hdr : L.drop j = x :: L.drop (j + 1) := by
        rw [List.getElem?_eq_some_iff] at hx
        obtain ⟨h1, h2⟩ := hx
        rw [← h2]; exact List.drop_eq_getElem_cons h1
      have hdv := div32_fn r x d hr hx32 h1
      obtain ⟨g, hg⟩ : ∃ g, g = (r * 4294967296 + x) / d := ⟨_, rfl⟩
      obtain ⟨s, hs⟩ : ∃ s, s = (r * 4294967296 + x) % d := ⟨_, rfl⟩
      have hgs : g * d + s = r * 4294967296 + x := by rw [hg, hs, Nat.mul_comm]; exact Nat.div_add_mod _ _
      have hsd : s < d := by rw [hs]; exact Nat.mod_lt _ h0
      have hg32 : g < 4294967296 := by
        rw [hg, Nat.div_lt_iff_lt_mul h0]
        have : (r + 1) * 4294967296 ≤ d * 4294967296 := Nat.mul_le_mul_right _ hr
        omega
      rw [← hg, ← hs] at hdv
      have ej : ((j + 1 : Nat) : Int) - 1 = (j : Nat) := by omega
      rw [ej]
      refine awp_seq_k fun K2 hK2 => ?_
      refine awp_block ?_
      refine awp_x prog_ok hP hnt [] [.val (.tup [.d (.int .u32 g), .d (.int .u32 s)])] [some [.int .u32 x]] [0, 1, 7, 8, 9] (by kernel_rfl) (G := fun K => ((0 : Int) ≤ (↑j : Int) ∧ (↑j : Int) < (↑L.length : Int) ∧ ((↑j : Int).toNat + 1) * 1 ≤ (u32s L).length) ∧ (List.drop ((↑j : Int).toNat * 1) (u32s L))[0]? = some (D.int IntKind.u32 (↑x : Int)) ∧ Fn Try.prog 260 [V.d (D.int IntKind.u32 (↑r : Int)), V.d (D.int IntKind.u32 (↑x : Int)), V.d (D.int IntKind.u32 (↑d : Int))] [] (V.tup [V.d (D.int IntKind.u32 (↑g : Int)), V.d (D.int IntKind.u32 (↑s : Int))]) [] ∧ ((0 : Int) ≤ (↑j : Int) ∧ (↑j : Int) < (↑L.length : Int)) ∧ 0 + (↑j : Int).toNat * 1 + [D.int IntKind.u32 (↑g : Int)].length ≤ (u32s (List.replicate (j + 1) 0 ++ q)).length ∧ K (St.mk [(0, V.d (du L)), (1, V.d (D.int IntKind.u32 (↑d : Int))), (7, V.own 0 0 L.length 1), (8, V.d (D.int IntKind.u32 (↑s : Int))), (9, V.d (D.int IntKind.i64 (↑j : Int)))] [(0, some (Blk.mk (setCells (u32s (List.replicate (j + 1) 0 ++ q)) (0 + (↑j : Int).toNat * 1) [D.int IntKind.u32 (↑g : Int)]) true))] 18)) (fun K => by kernel_rfl) ?_
      refine ⟨⟨by omega, by omega, by simp; omega⟩, by simp [hx], hdv, ⟨by omega, by omega⟩, by simp, hK2 _ ?_⟩
      refine awp_x prog_ok hP hnt [(23, .int .i64 ((j : Int) - 1))] [] [] [0, 1, 7, 8, 9] (by kernel_rfl) (G := fun K => IntKind.i64.wrap ((↑j : Int) - (1 : Int)) = (↑j : Int) - (1 : Int) ∧ K (St.mk [(0, V.d (du L)), (1, V.d (D.int IntKind.u32 (↑d : Int))), (7, V.own 0 0 L.length 1), (8, V.d (D.int IntKind.u32 (↑s : Int))), (9, V.d (D.int IntKind.i64 ((↑j : Int) - (1 : Int))))] [(0, some (Blk.mk (setCells (u32s (List.replicate (j + 1) 0 ++ q)) (0 + (↑j : Int).toNat * 1) [D.int IntKind.u32 (↑g : Int)]) true))] 21)) (fun K => by kernel_rfl) ?_
      refine ⟨by rw [w64] <;> omega, (j, g :: q, s), [(0, 0)], ⟨⟨by simp; omega, ?_, hsd, ?_⟩, by show j < j + 1; omega⟩, ?_⟩
      · intro y hy
        rcases List.mem_cons.1 hy with rfl | hy
        · exact hg32
        · exact hq y hy
      · rw [hdr]
        show (g + 4294967296 * val q) * d + s = x + 4294967296 * val (L.drop (j + 1))
        rw [← hv]; grind
      · rw [Int.toNat_natCast, Nat.zero_add, Nat.mul_one, setCells_u32, set_rep]
        (constructor <;> simp [hl, envOk, memOk, conv, St.get, St.blk])
    · simp at e
      have hk0 : k = 0 := by omega
      subst hk0
      simp [hvd] at hv
      refine ⟨by omega, hq, ?_⟩
      rw [← hv, Nat.mul_comm, Nat.mul_add_div h0, Nat.div_eq_of_lt hr]; rfl
    · simp at e
      have hk0 : k = 0 := by omega
      subst hk0
      simp [hvd] at hv
      have : n % d = r := by rw [← hv, Nat.mul_comm, Nat.mul_add_mod, Nat.mod_eq_of_lt hr]
      rw [this]
      (constructor <;> simp [hl, envOk, memOk, conv, St.get, St.blk])
  intro q ⟨hq1, hq2, hq3⟩
  have ht2 := trim_fn q (by omega) hq2
  rw [hq3] at ht2
  refine awp_sx prog_ok hP hnt [] [.val (.d (du (dig (n / d))))] [] [4, 5, 6] (by kernel_rfl) (G := fun K => Fn Try.prog 212 [V.d (D.lst L.length (List.take (L.length * 1) (List.drop 0 (u32s q))))] [] (V.d (du (dig (n / d)))) [] ∧ K (St.mk [(4, V.d (du (dig (n / d)))), (5, V.d (D.int IntKind.u32 (↑(n % d) : Int))), (6, V.d (D.bool true))] [(0, some (Blk.mk (u32s q) false))] 7)) (fun K => by kernel_rfl) ?_
  rw [Nat.mul_one, own_du hq1]
  exact ⟨ht2, awp_ret ⟨.inl rfl, .inl ⟨rfl, trivial⟩⟩⟩
end Go.Abs

set_option linter.unusedVariables false
set_option linter.unusedSimpArgs false
namespace Go.Abs
open Go Go.Proofs
set_option maxRecDepth 100000

theorem take_dig : ∀ {q : List Nat}, Dg q → q.take (dig (val q)).length = dig (val q)
  | [], _ => by simp [val, dig_zero]
  | d :: q, h => by
    have ih := take_dig (q := q) (fun x hx => h x (List.mem_cons_of_mem _ hx))
    have hd := h d (List.mem_cons_self ..)
    by_cases h0 : d + 4294967296 * val q = 0
    · show List.take (dig (d + 4294967296 * val q)).length _ = dig (d + 4294967296 * val q)
      rw [h0, dig_zero]; rfl
    · show List.take (dig (d + 4294967296 * val q)).length _ = dig (d + 4294967296 * val q)
      rw [dig_cons hd h0, List.length_cons, List.take_succ_cons, ih]

theorem trimO' {l : List Nat} {v : Nat} (h : l.length ≤ 2 ^ 40) (hd : Dg l) (hv : val l = v) (b : Nat) : Fn Try.prog 212 [.own b 0 l.length 1] [(b, ⟨u32s l, true⟩)] (.own b 0 (dig v).length 1) [(b, ⟨u32s (dig v), true⟩)] := by
  subst hv
  have h5 := (trimO_fn l h hd b).out_take (dig (val l)).length
  rwa [u32s_take, take_dig hd] at h5

theorem shl_u32 {x r : Nat} (h : r ≤ 32) : IntKind.u32.wrap ((x : Int) * 2 ^ min (Int.toNat (r : Nat)) IntKind.u32.bits) = ((x % 2 ^ (32 - r)) * 2 ^ r : Nat) := by
  rw [show min (Int.toNat (r : Nat)) IntKind.u32.bits = r from by show min r 32 = r; omega, IntKind.wrap_u32]
  have h1 : (x * 2 ^ r) % 4294967296 = (x % 2 ^ (32 - r)) * 2 ^ r := by
    rw [show 4294967296 = 2 ^ (32 - r) * 2 ^ r from by rw [← Nat.pow_add, show 32 - r + r = 32 by omega], Nat.mul_mod_mul_right]
  rw [← h1]
  simp
theorem shr_u32 {x r : Nat} (h : r ≤ 32) : ((x : Int).fdiv (2 ^ min (Int.toNat (r : Nat)) IntKind.u32.bits)) = (x / 2 ^ r : Nat) := by
  rw [show min (Int.toNat (r : Nat)) IntKind.u32.bits = r from by show min r 32 = r; omega, fdivN]

theorem set_mid (A P R : List Nat) (x y : Nat) : (A ++ (P ++ x :: R)).set (A.length + P.length) y = A ++ (P ++ y :: R) := by
  rw [List.set_append_right _ _ (by omega), List.set_append_right _ _ (by omega)]
  simp
theorem get_mid (A P R : List Nat) (x : Nat) : (A ++ (P ++ x :: R))[A.length + P.length]? = some x := by
  rw [List.getElem?_append_right (by omega), List.getElem?_append_right (by omega)]
  simp
theorem dg_append {a b : List Nat} (ha : Dg a) (hb : Dg b) : Dg (a ++ b) := fun x hx => by
  rcases List.mem_append.1 hx with h | h
  · exact ha x h
  · exact hb x h
theorem dg_one {x : Nat} (h : x < 4294967296) : Dg [x] := fun y hy => by
  rw [List.mem_singleton] at hy; omega
theorem split32 (s : Nat) : 2 ^ s = 4294967296 ^ (s / 32) * 2 ^ (s % 32) := by
  rw [show (4294967296 : Nat) = 2 ^ 32 from rfl, ← Nat.pow_mul, ← Nat.pow_add, Nat.div_add_mod]

/-- one digit of a shift to the left -/
theorem shl_digit {x r low : Nat} (hx : x < 4294967296) (hr : r < 32) (hr0 : 0 < r) (hl : low < 2 ^ r) :
    (x % 2 ^ (32 - r)) * 2 ^ r ||| low = (x % 2 ^ (32 - r)) * 2 ^ r + low ∧ (x % 2 ^ (32 - r)) * 2 ^ r + low + 4294967296 * (x / 2 ^ (32 - r)) = x * 2 ^ r + low ∧
    (x % 2 ^ (32 - r)) * 2 ^ r + low < 4294967296 ∧ x / 2 ^ (32 - r) < 2 ^ r ∧ (x % 2 ^ (32 - r)) * 2 ^ r < 4294967296 := by
  have e : 4294967296 = 2 ^ (32 - r) * 2 ^ r := by rw [← Nat.pow_add, show 32 - r + r = 32 by omega]
  have p1 : 0 < 2 ^ (32 - r) := Nat.pow_pos (by omega)
  have p2 : 0 < 2 ^ r := Nat.pow_pos (by omega)
  have hm : x % 2 ^ (32 - r) < 2 ^ (32 - r) := Nat.mod_lt _ p1
  have hdm := Nat.div_add_mod x (2 ^ (32 - r))
  generalize x % 2 ^ (32 - r) = m at *
  have hq : x / 2 ^ (32 - r) < 2 ^ r := by rw [Nat.div_lt_iff_lt_mul p1, Nat.mul_comm, ← e]; exact hx
  generalize x / 2 ^ (32 - r) = q at *
  have hlt : m * 2 ^ r + 2 ^ r ≤ 4294967296 := by
    rw [e]
    have := Nat.mul_le_mul_right (2 ^ r) (show m + 1 ≤ 2 ^ (32 - r) from hm)
    rwa [Nat.add_mul, Nat.one_mul] at this
  refine ⟨or_lt hl, ?_, by omega, hq, by omega⟩
  rw [← hdm, e]
  generalize 2 ^ (32 - r) = a
  generalize 2 ^ r = b
  grind

theorem setCells_row : ∀ (P A Z : List Nat), P.length ≤ Z.length → setCells (u32s (A ++ Z)) A.length (u32s P) = u32s (A ++ (P ++ Z.drop P.length))
  | [], A, Z, _ => by simp [u32s, setCells]
  | p :: P, A, [], h => by simp at h
  | p :: P, A, z :: Z, h => by
    show setCells ((u32s (A ++ z :: Z)).set A.length (.int .u32 p)) (A.length + 1) (u32s P) = _
    rw [u32s_set, List.set_append_right _ _ (Nat.le_refl _), Nat.sub_self, List.set_cons_zero]
    have := setCells_row P (A ++ [p]) Z (by simpa using h)
    simp only [List.length_append, List.length_cons, List.length_nil, List.append_assoc, List.cons_append, List.nil_append] at this
    rw [this]; rfl

/-- shift to the left, as digits of the caller's own -/
theorem shlO_fn (l : List Nat) (s : Nat) (h : l.length ≤ 2 ^ 39) (hd : Dg l) (hs : s ≤ 16777216) (b : Nat) :
    Fn Try.prog 154 [.d (du l), .d (.int .i64 s)] [] (.own b 0 (dig (val l * 2 ^ s)).length 1) [(b, ⟨u32s (dig (val l * 2 ^ s)), true⟩)] := by
  refine Fn.out_ren ?_ b
  refine fn0o (nt := 61) (res := [.tmp 4]) Try.func154 rfl (by decide) rfl rfl rfl rfl ?_
  intro Cx hP hnt hl
  have ht := trim_fn l (by omega) hd
  have hle := dig_le hd
  obtain ⟨n, hn⟩ : ∃ n, n = val l := ⟨_, rfl⟩
  rw [← hn] at ht hle ⊢
  refine awp_sx prog_ok hP hnt [] [] [] [0, 1] (by kernel_rfl) (G := fun K => K (St.mk [(0, V.d (du l)), (1, V.d (D.int IntKind.i64 (↑s : Int)))] [] 1)) (fun K => by kernel_rfl) ?_
  refine awp_sx prog_ok hP hnt [] [.val (.d (du (dig n)))] [] [0, 1] (by kernel_rfl) (G := fun K => Fn Try.prog 212 [V.d (du l)] [] (V.d (du (dig n))) [] ∧ K (St.mk [(0, V.d (du (dig n))), (1, V.d (D.int IntKind.i64 (↑s : Int)))] [] 4)) (fun K => by kernel_rfl) ?_
  refine ⟨ht, ?_⟩
  refine awp_seq_k fun K hK => ?_
  refine awp_sx prog_ok hP hnt [] [] [] [0, 1, 15] (by kernel_rfl) (G := fun K => K (St.mk [(0, V.d (du (dig n))), (1, V.d (D.int IntKind.i64 (↑s : Int))), (15, V.d (D.bool ((↑(dig n).length : Int) == (0 : Int))))] [] 7)) (fun K => by kernel_rfl) ?_
  refine awp_cond rfl (fun e => ?_) (fun e => awp_skip (hK _ ?_))
  · simp at e
    rw [dig_nil] at e
    subst e
    rw [Nat.zero_mul, dig_zero]
    refine awp_sx prog_ok hP hnt [] [] [] [4] (by kernel_rfl) (G := fun K => K (St.mk [(4, V.nil)] [] 8)) (fun K => by kernel_rfl) ?_
    refine awp_weak [] ⟨[(4, .own 0 0 0 1)], [(0, some ⟨[], true⟩)], 1⟩ ?_ (awp_ret ⟨.inl rfl, .inl ⟨rfl, rfl, trivial⟩⟩)
    (constructor <;> simp [hl, envOk, memOk, conv, St.get, St.blk])
  simp at e
  rw [dig_nil] at e
  have hw : s / 32 ≤ 524288 := by omega
  have hr : s % 32 < 32 := by omega
  have h2s := split32 s
  have ew : (s : Int).tdiv 32 = (s / 32 : Nat) := rfl
  have er : (s : Int).tmod 32 = (s % 32 : Nat) := rfl
  obtain ⟨w, hw0⟩ : ∃ w, w = s / 32 := ⟨_, rfl⟩
  obtain ⟨r, hr0⟩ : ∃ r, r = s % 32 := ⟨_, rfl⟩
  rw [← hw0] at hw h2s ew
  rw [← hr0] at hr h2s er
  rw [h2s]
  have hlen : (dig n).length ≤ 2 ^ 39 := by omega
  have hvd := val_dig n
  have hDg := dig_lt n
  obtain ⟨L, hL⟩ : ∃ L, L = dig n := ⟨_, rfl⟩
  rw [← hL] at hlen hvd hDg ⊢
  refine awp_sx prog_ok hP hnt [(18, .int .i64 s)] [] [] [0, 1] (by kernel_rfl) (G := fun K => (if (16777216 : Int) < if (0 : Int) > (↑s : Int) then (0 : Int) else (↑s : Int) then (16777216 : Int) else if (0 : Int) > (↑s : Int) then (0 : Int) else (↑s : Int)) = (↑s : Int) ∧ K (St.mk [(0, V.d (du L)), (1, V.d (D.int IntKind.i64 (↑s : Int)))] [] 11)) (fun K => by kernel_rfl) ?_
  refine ⟨by rw [if_neg (show ¬ (0 : Int) > (s : Int) by omega), if_neg (by omega)], ?_⟩
  refine awp_sx prog_ok hP hnt [(20, .int .i64 w), (22, .int .i64 r)] [] [] [0, 5, 6] (by kernel_rfl) (G := fun K => (32 : Int) ≠ (0 : Int) ∧ IntKind.i64.wrap ((↑s : Int).tdiv (32 : Int)) = (↑w : Int) ∧ (32 : Int) ≠ (0 : Int) ∧ (↑s : Int).tmod (32 : Int) = (↑r : Int) ∧ K (St.mk [(0, V.d (du L)), (5, V.d (D.int IntKind.i64 (↑w : Int))), (6, V.d (D.int IntKind.i64 (↑r : Int)))] [] 17)) (fun K => by kernel_rfl) ?_
  refine ⟨by omega, by rw [ew, w64] <;> omega, by omega, er, ?_⟩
  refine awp_sx prog_ok hP hnt [(26, .int .i64 (w + L.length : Nat)), (27, .int .i64 (w + L.length + 1 : Nat))] [] [] [0, 5, 6, 7] (by kernel_rfl) (G := fun K => IntKind.i64.wrap ((↑w : Int) + (↑L.length : Int)) = (↑(w + L.length) : Int) ∧ IntKind.i64.wrap ((↑(w + L.length) : Int) + (1 : Int)) = (↑(w + L.length + 1) : Int) ∧ ((↑(w + L.length + 1) : Int) = (↑(w + L.length + 1) : Int) ∧ (0 : Int) ≤ (↑(w + L.length + 1) : Int) ∧ (↑(w + L.length + 1) : Int) * (↑4 : Int) ≤ (2 : Int) ^ 47) ∧ K (St.mk [(0, V.d (du L)), (5, V.d (D.int IntKind.i64 (↑w : Int))), (6, V.d (D.int IntKind.i64 (↑r : Int))), (7, V.own 22 0 (↑(w + L.length + 1) : Int).toNat 1)] [(22, some (Blk.mk (zeros (↑(w + L.length + 1) : Int).toNat (TI.mk (Kind.int IntKind.u32) 1 4 [D.int IntKind.u32 (0 : Int)]).zero) true))] 24)) (fun K => by kernel_rfl) ?_
  refine ⟨by rw [w64] <;> omega, by rw [w64] <;> omega, ⟨rfl, by omega, by omega⟩, ?_⟩
  refine awp_sx prog_ok hP hnt [] [] [] [5, 6, 7] (by kernel_rfl) (G := fun K => ((0 : Int) ≤ (↑w : Int) ∧ (↑w : Int) < (↑(↑(w + L.length + 1) : Int).toNat : Int)) ∧ (u32s L).length = L.length * 1 ∧ 0 + (↑w : Int).toNat * 1 + ((↑(w + L.length + 1) : Int).toNat - (↑w : Int).toNat) * 1 ≤ (zeros (↑(w + L.length + 1) : Int).toNat (TI.mk (Kind.int IntKind.u32) 1 4 [D.int IntKind.u32 (0 : Int)]).zero).length ∧ K (St.mk [(5, V.d (D.int IntKind.i64 (↑w : Int))), (6, V.d (D.int IntKind.i64 (↑r : Int))), (7, V.own 22 0 (↑(w + L.length + 1) : Int).toNat 1)] [(22, some (Blk.mk (setCells (zeros (↑(w + L.length + 1) : Int).toNat (TI.mk (Kind.int IntKind.u32) 1 4 [D.int IntKind.u32 (0 : Int)]).zero) (0 + (↑w : Int).toNat * 1) (List.take (min L.length ((↑(w + L.length + 1) : Int).toNat - (↑w : Int).toNat) * 1) (u32s L))) true))] 29)) (fun K => by kernel_rfl) ?_
  have hcells : setCells (zeros (w + L.length + 1) [.int .u32 0]) (0 + w * 1) (List.take (min L.length (w + L.length + 1 - w) * 1) (u32s L)) = u32s (List.replicate w 0 ++ (L ++ [0])) := by
    have h1 := setCells_row L (List.replicate w 0) (List.replicate (L.length + 1) 0) (by simp)
    rw [List.replicate_append_replicate, List.length_replicate, ← zeros_u32] at h1
    rw [show w + L.length + 1 = w + (L.length + 1) by omega, Nat.zero_add, Nat.mul_one, Nat.mul_one, List.take_of_length_le (by simp), h1]
    simp
  rw [Int.toNat_natCast, Int.toNat_natCast]
  refine ⟨⟨by omega, by omega⟩, by simp, ?_, ?_⟩
  · rw [zeros_u32]; simp; omega
  rw [hcells]
  refine awp_cut (ι := List Nat) (fun o => ⟨[(7, .own 0 0 o.length 1)], [(0, some ⟨u32s o, true⟩)], 1⟩) (fun o => o.length = w + L.length + 1 ∧ Dg o ∧ val o = n * (4294967296 ^ w * 2 ^ r)) ?_ ?_
  · have hDo : Dg (List.replicate w 0 ++ (L ++ [0])) := dg_append (dg_zeros w) (dg_append hDg (dg_one (by omega)))
    have hvL0 : val (L ++ [0]) = n := by rw [val_append, hvd]; simp [val]
    refine awp_sx prog_ok hP hnt [] [] [] [5, 6, 7, 35] (by kernel_rfl) (G := fun K => K (St.mk [(5, V.d (D.int IntKind.i64 (↑w : Int))), (6, V.d (D.int IntKind.i64 (↑r : Int))), (7, V.own 22 0 (w + L.length + 1) 1), (35, V.d (D.bool (decide ((↑r : Int) > (0 : Int)))))] [(22, some (Blk.mk (u32s (List.replicate w 0 ++ (L ++ [0]))) true))] 31)) (fun K => by kernel_rfl) ?_
    refine awp_cond rfl (fun e => ?_) (fun e => awp_skip ⟨_, [(0, 22)], ⟨?_, hDo, ?_⟩, ?_⟩)
    · simp at e
      refine awp_sx prog_ok hP hnt [] [] [] [5, 6, 7, 8] (by kernel_rfl) (G := fun K => K (St.mk [(5, V.d (D.int IntKind.i64 (↑w : Int))), (6, V.d (D.int IntKind.i64 (↑r : Int))), (7, V.own 22 0 (w + L.length + 1) 1), (8, V.d (D.int IntKind.u32 (0 : Int)))] [(22, some (Blk.mk (u32s (List.replicate w 0 ++ (L ++ [0]))) true))] 32)) (fun K => by kernel_rfl) ?_
      refine awp_sx prog_ok hP hnt [] [] [] [6, 7, 8, 9] (by kernel_rfl) (G := fun K => K (St.mk [(6, V.d (D.int IntKind.i64 (↑r : Int))), (7, V.own 22 0 (w + L.length + 1) 1), (8, V.d (D.int IntKind.u32 (0 : Int))), (9, V.d (D.int IntKind.i64 (↑w : Int)))] [(22, some (Blk.mk (u32s (List.replicate w 0 ++ (L ++ [0]))) true))] 34)) (fun K => by kernel_rfl) ?_
      refine awp_block ?_
      refine awp_loop (ι := List Nat × List Nat × Nat) (fun ⟨P, R, low⟩ => ⟨[(6, .d (.int .i64 r)), (7, .own 0 0 (w + L.length + 1) 1), (8, .d (.int .u32 low)), (9, .d (.int .i64 (w + P.length : Nat)))], [(0, some ⟨u32s (List.replicate w 0 ++ (P ++ R)), true⟩)], 1⟩)
        (fun ⟨P, R, low⟩ => P.length + R.length = L.length + 1 ∧ Dg P ∧ Dg R ∧ low < 2 ^ r ∧ val P + 4294967296 ^ P.length * (low + val R * 2 ^ r) = n * 2 ^ r) (fun ⟨P, R, low⟩ => R.length) ([], L ++ [0], 0) [(0, 22)] ?_ ?_ ?_
      · refine ⟨by simp, by simp [Dg], dg_append hDg (dg_one (by omega)), Nat.pow_pos (by omega), ?_⟩
        rw [hvL0]; simp [val]
      · (constructor <;> simp [hl, envOk, memOk, conv, St.get, St.blk])
      rintro ⟨P, R, low⟩ ⟨hl1, hP1, hR, hlow, hv⟩
      refine awp_seq_k fun K1 hK1 => ?_
      refine awp_sx prog_ok hP hnt [] [] [] [6, 7, 8, 9, 40] (by kernel_rfl) (G := fun K => K (St.mk [(6, V.d (D.int IntKind.i64 (↑r : Int))), (7, V.own 0 0 (w + L.length + 1) 1), (8, V.d (D.int IntKind.u32 (↑low : Int))), (9, V.d (D.int IntKind.i64 (↑(w + P.length) : Int))), (40, V.d (D.bool (decide ((↑(w + P.length) : Int) < (↑(w + L.length + 1) : Int)))))] [(0, some (Blk.mk (u32s (List.replicate w 0 ++ (P ++ R))) true))] 5)) (fun K => by kernel_rfl) ?_
      refine awp_cond rfl (fun e2 => awp_skip (hK1 _ ?_)) (fun e2 => awp_exit ⟨List.replicate w 0 ++ (P ++ R), [(0, 0)], ?_, ?_⟩)
      · simp at e2
        obtain ⟨x, R, rfl⟩ : ∃ x R', R = x :: R' := by
          cases R with
          | nil => simp at hl1; omega
          | cons x R' => exact ⟨x, R', rfl⟩
        have hx32 := hR x (by simp)
        simp only [List.length_cons] at hl1
        obtain ⟨d1, d2, d3, d4, d5⟩ := shl_digit hx32 hr e hlow
        obtain ⟨D, hD⟩ : ∃ D, D = (x % 2 ^ (32 - r)) * 2 ^ r := ⟨_, rfl⟩
        obtain ⟨q, hq⟩ : ∃ q, q = x / 2 ^ (32 - r) := ⟨_, rfl⟩
        have hsl := shl_u32 (x := x) (r := r) (by omega)
        have hsr := shr_u32 (x := x) (r := 32 - r) (by omega)
        rw [← hD] at d1 d2 d3 d5 hsl
        rw [← hq] at d2 d4 hsr
        have hor := or_u32 (x := D) (y := low) d5 (by have : 2 ^ r < 2 ^ 32 := Nat.pow_lt_pow_right (by omega) hr; omega)
        rw [d1] at hor
        have hget := get_mid (List.replicate w 0) P R x
        have hset := set_mid (List.replicate w 0) P R x (D + low)
        rw [List.length_replicate] at hget hset
        refine awp_seq_k fun K2 hK2 => ?_
        refine awp_block ?_
        refine awp_sx prog_ok hP hnt [] [] [some [.int .u32 x]] [6, 7, 8, 9, 10] (by kernel_rfl) (G := fun K => ((0 : Int) ≤ (↑(w + P.length) : Int) ∧ (↑(w + P.length) : Int) < (↑(w + L.length + 1) : Int)) ∧ (u32s (List.replicate w 0 ++ (P ++ x :: R)))[0 + (↑(w + P.length) : Int).toNat * 1]? = some (Abs.D.int IntKind.u32 (↑x : Int)) ∧ K (St.mk [(6, V.d (Abs.D.int IntKind.i64 (↑r : Int))), (7, V.own 0 0 (w + L.length + 1) 1), (8, V.d (Abs.D.int IntKind.u32 (↑low : Int))), (9, V.d (Abs.D.int IntKind.i64 (↑(w + P.length) : Int))), (10, V.d (Abs.D.int IntKind.u32 (↑x : Int)))] [(0, some (Blk.mk (u32s (List.replicate w 0 ++ (P ++ x :: R))) true))] 10)) (fun K => by kernel_rfl) ?_
        refine ⟨⟨by omega, by omega⟩, by rw [Int.toNat_natCast, Nat.zero_add, Nat.mul_one, u32s_get, hget]; rfl, ?_⟩
        refine awp_sx prog_ok hP hnt [(51, .int .u32 D), (53, .int .u32 (D + low : Nat))] [] [] [6, 7, 9, 10] (by kernel_rfl) (G := fun K => (0 : Int) ≤ (↑r : Int) ∧ IntKind.u32.wrap ((↑x : Int) * (2 : Int) ^ min (↑r : Int).toNat IntKind.u32.bits) = (↑D : Int) ∧ IntKind.u32.wrap (↑(BitVec.ofInt IntKind.u32.bits (↑D : Int) ||| BitVec.ofInt IntKind.u32.bits (↑low : Int)).toNat : Int) = (↑(D + low) : Int) ∧ ((0 : Int) ≤ (↑(w + P.length) : Int) ∧ (↑(w + P.length) : Int) < (↑(w + L.length + 1) : Int)) ∧ 0 + (↑(w + P.length) : Int).toNat * 1 + [Abs.D.int IntKind.u32 (↑(D + low) : Int)].length ≤ (u32s (List.replicate w 0 ++ (P ++ x :: R))).length ∧ K (St.mk [(6, V.d (Abs.D.int IntKind.i64 (↑r : Int))), (7, V.own 0 0 (w + L.length + 1) 1), (9, V.d (Abs.D.int IntKind.i64 (↑(w + P.length) : Int))), (10, V.d (Abs.D.int IntKind.u32 (↑x : Int)))] [(0, some (Blk.mk (setCells (u32s (List.replicate w 0 ++ (P ++ x :: R))) (0 + (↑(w + P.length) : Int).toNat * 1) [Abs.D.int IntKind.u32 (↑(D + low) : Int)]) true))] 19)) (fun K => by kernel_rfl) ?_
        refine ⟨by omega, hsl, hor, ⟨by omega, by omega⟩, by simp; omega, ?_⟩
        rw [Int.toNat_natCast, Nat.zero_add, Nat.mul_one, setCells_u32, hset]
        refine awp_x prog_ok hP hnt [(57, .int .i64 (32 - r : Nat)), (58, .int .u32 q)] [] [] [6, 7, 8, 9] (by kernel_rfl) (G := fun K => IntKind.i64.wrap ((32 : Int) - (↑r : Int)) = (↑(32 - r) : Int) ∧ (0 : Int) ≤ (↑(32 - r) : Int) ∧ (↑x : Int).fdiv ((2 : Int) ^ min (↑(32 - r) : Int).toNat IntKind.u32.bits) = (↑q : Int) ∧ K (St.mk [(6, V.d (Abs.D.int IntKind.i64 (↑r : Int))), (7, V.own 0 0 (w + L.length + 1) 1), (9, V.d (Abs.D.int IntKind.i64 (↑(w + P.length) : Int))), (8, V.d (Abs.D.int IntKind.u32 (↑q : Int)))] [(0, some (Blk.mk (u32s (List.replicate w 0 ++ (P ++ (D + low) :: R))) true))] 24)) (fun K => by kernel_rfl) ?_
        refine ⟨by rw [w64] <;> omega, by omega, hsr, hK2 _ ?_⟩
        refine awp_x prog_ok hP hnt [(42, .int .i64 (w + (P ++ [D + low]).length : Nat))] [] [] [6, 7, 8, 9] (by kernel_rfl) (G := fun K => IntKind.i64.wrap ((↑(w + P.length) : Int) + (1 : Int)) = (↑(w + (P ++ [D + low]).length) : Int) ∧ K (St.mk [(6, V.d (Abs.D.int IntKind.i64 (↑r : Int))), (7, V.own 0 0 (w + L.length + 1) 1), (9, V.d (Abs.D.int IntKind.i64 (↑(w + (P ++ [D + low]).length) : Int))), (8, V.d (Abs.D.int IntKind.u32 (↑q : Int)))] [(0, some (Blk.mk (u32s (List.replicate w 0 ++ (P ++ (D + low) :: R))) true))] 27)) (fun K => by kernel_rfl) ?_
        refine ⟨by rw [w64] <;> simp <;> omega, (P ++ [D + low], R, q), [(0, 0)], ⟨⟨by simp; omega, dg_append hP1 (dg_one d3), fun y hy => hR y (by simp [hy]), d4, ?_⟩, ?_⟩, ?_⟩
        · rw [val_append, List.length_append, List.length_singleton, Nat.pow_succ, ← hv]
          simp only [val]
          generalize 4294967296 ^ P.length = A
          generalize 2 ^ r = B at *
          grind
        · show R.length < (x :: R).length
          simp
        · rw [show (P ++ (D + low) :: R) = P ++ [D + low] ++ R by simp]
          (constructor <;> simp [hl, envOk, memOk, conv, St.get, St.blk])
      · simp at e2
        have hR0 : R = [] := List.length_eq_zero_iff.1 (by omega)
        subst hR0
        simp at hl1
        rw [List.append_nil]
        refine ⟨by simp; omega, dg_append (dg_zeros w) hP1, ?_⟩
        have hz : low = 0 := by
          have h1 : n < 4294967296 ^ L.length := by rw [← hvd]; exact val_lt hDg
          have h2 : n * 2 ^ r < 4294967296 ^ L.length * 4294967296 := by
            have h3 : 2 ^ r ≤ 4294967296 := by
              have := Nat.pow_le_pow_right (n := 2) (show 0 < 2 by omega) (show r ≤ 32 by omega)
              omega
            exact Nat.lt_of_lt_of_le (Nat.mul_lt_mul_of_pos_right h1 (Nat.pow_pos (by omega))) (Nat.mul_le_mul_left _ h3)
          rw [← hv, hl1, Nat.pow_succ] at h2
          simp only [val, Nat.zero_mul, Nat.add_zero] at h2
          rcases Nat.eq_zero_or_pos low with h | h
          · exact h
          · have := Nat.mul_le_mul_left (4294967296 ^ L.length * 4294967296) h
            omega
        subst hz
        simp only [val, Nat.zero_mul, Nat.add_zero, Nat.mul_zero] at hv
        rw [val_append, val_zeros, List.length_replicate, hv]
        grind
      · simp at e2
        have hR0 : R = [] := List.length_eq_zero_iff.1 (by omega)
        subst hR0
        simp at hl1
        have : (List.replicate w 0 ++ (P ++ [])).length = w + L.length + 1 := by simp; omega
        rw [this]
        (constructor <;> simp [hl, envOk, memOk, conv, St.get, St.blk])
    · simp; omega
    · simp at e
      rw [val_append, val_zeros, List.length_replicate, hvL0, e]
      simp [Nat.mul_comm]
    · have : (List.replicate w 0 ++ (L ++ [0])).length = w + L.length + 1 := by simp; omega
      rw [this]
      (constructor <;> simp [hl, envOk, memOk, conv, St.get, St.blk])
  intro o ⟨ho1, ho2, ho3⟩
  have ht2 := trimO' (by omega) ho2 ho3 0
  refine awp_sx prog_ok hP hnt [] [.lend (.own 0 0 (dig (n * (4294967296 ^ w * 2 ^ r))).length 1) [u32s (dig (n * (4294967296 ^ w * 2 ^ r)))]] [] [4] (by kernel_rfl) (G := fun K => (Blk.mk (u32s o) true).live = true ∧ Fn Try.prog 212 [V.own 0 0 o.length 1] [(0, Blk.mk (u32s o) true)] (V.own 0 0 (dig (n * (4294967296 ^ w * 2 ^ r))).length 1) [(0, Blk.mk (u32s (dig (n * (4294967296 ^ w * 2 ^ r)))) true)] ∧ K (St.mk [(4, V.own 0 0 (dig (n * (4294967296 ^ w * 2 ^ r))).length 1)] [(0, some (Blk.mk (u32s (dig (n * (4294967296 ^ w * 2 ^ r)))) true))] 4)) (fun K => by kernel_rfl) ?_
  exact ⟨rfl, ht2, awp_ret ⟨.inl rfl, .inl ⟨rfl, rfl, trivial⟩⟩⟩

/-- one digit of a shift to the right -/
theorem shr_digit {x y r Y : Nat} (hx : x < 4294967296) (hr : r < 32) (hy : y = Y % 4294967296) :
    (x / 2 ^ r ||| (y % 2 ^ (32 - (32 - r))) * 2 ^ (32 - r)) = x / 2 ^ r + (y % 2 ^ r) * 2 ^ (32 - r) ∧ (x / 2 ^ r + (y % 2 ^ r) * 2 ^ (32 - r)) + 4294967296 * (Y / 2 ^ r) = (x + 4294967296 * Y) / 2 ^ r ∧
    x / 2 ^ r + (y % 2 ^ r) * 2 ^ (32 - r) < 4294967296 ∧ (y % 2 ^ (32 - (32 - r))) * 2 ^ (32 - r) < 4294967296 := by
  have e : 4294967296 = 2 ^ r * 2 ^ (32 - r) := by rw [← Nat.pow_add, show r + (32 - r) = 32 by omega]
  have p1 : 0 < 2 ^ (32 - r) := Nat.pow_pos (by omega)
  have p2 : 0 < 2 ^ r := Nat.pow_pos (by omega)
  rw [show 32 - (32 - r) = r by omega]
  have hq : x / 2 ^ r < 2 ^ (32 - r) := by rw [Nat.div_lt_iff_lt_mul p2, Nat.mul_comm, ← e]; exact hx
  have hym : y % 2 ^ r = Y % 2 ^ r := by rw [hy, e, Nat.mod_mul_right_mod]
  rw [hym]
  have hm : Y % 2 ^ r < 2 ^ r := Nat.mod_lt _ p2
  have hdm := Nat.div_add_mod Y (2 ^ r)
  have hsum : (x + 4294967296 * Y) / 2 ^ r = x / 2 ^ r + 2 ^ (32 - r) * Y := by
    rw [e, Nat.mul_assoc, Nat.add_mul_div_left _ _ p2]
  rw [hsum]
  generalize Y % 2 ^ r = m at *
  generalize Y / 2 ^ r = t at *
  generalize x / 2 ^ r = q at *
  have hlt : m * 2 ^ (32 - r) + 2 ^ (32 - r) ≤ 4294967296 := by
    rw [e]
    have := Nat.mul_le_mul_right (2 ^ (32 - r)) (show m + 1 ≤ 2 ^ r from hm)
    rwa [Nat.add_mul, Nat.one_mul] at this
  refine ⟨by rw [Nat.or_comm, or_lt hq, Nat.add_comm], ?_, by omega, by omega⟩
  rw [← hdm, e]
  generalize 2 ^ (32 - r) = a
  generalize 2 ^ r = b
  grind

theorem val_head : ∀ (q : List Nat), Dg q → q.headD 0 = val q % 4294967296
  | [], _ => rfl
  | d :: q, h => by
    have := h d (by simp)
    show d = (d + 4294967296 * val q) % 4294967296
    omega
theorem val_drop {l : List Nat} (h : Dg l) (n : Nat) : val (l.drop n) = val l / 4294967296 ^ n := by
  have h1 := val_append (l.take n) (l.drop n)
  rw [List.take_append_drop] at h1
  have h2 := val_take_lt h n
  by_cases hn : n ≤ l.length
  · rw [List.length_take, Nat.min_eq_left hn] at h1
    rw [h1, Nat.add_mul_div_left _ _ (Nat.pow_pos (by omega)), Nat.div_eq_of_lt h2]; omega
  · rw [List.drop_of_length_le (by omega)]
    rw [Nat.div_eq_of_lt]
    · rfl
    · exact Nat.lt_of_lt_of_le (val_lt h) (Nat.pow_le_pow_right (by omega) (by omega))

theorem shr_fn (l : List Nat) (s : Nat) (h : l.length ≤ 2 ^ 39) (hd : Dg l) (hs : s ≤ 2 ^ 60) :
    Fn Try.prog 250 [.d (du l), .d (.int .i64 s)] [] (.d (du (dig (val l / 2 ^ s)))) [] := by
  refine fn0 (nt := 60) (res := [.tmp 4]) Try.func250 rfl (by decide) rfl rfl rfl rfl ?_
  intro Cx hP hnt hl
  have ht := trim_fn l (by omega) hd
  have hle := dig_le hd
  obtain ⟨n, hn⟩ : ∃ n, n = val l := ⟨_, rfl⟩
  rw [← hn] at ht hle ⊢
  have h2s := split32 s
  have ew : (s : Int).tdiv 32 = (s / 32 : Nat) := rfl
  have er : (s : Int).tmod 32 = (s % 32 : Nat) := rfl
  have hr : s % 32 < 32 := by omega
  have hw : s / 32 ≤ s := by omega
  obtain ⟨w, hw0⟩ : ∃ w, w = s / 32 := ⟨_, rfl⟩
  obtain ⟨r, hr0⟩ : ∃ r, r = s % 32 := ⟨_, rfl⟩
  rw [← hw0] at hw h2s ew
  rw [← hr0] at hr h2s er
  rw [h2s]
  have hlen : (dig n).length ≤ 2 ^ 39 := by omega
  have hvd := val_dig n
  have hDg := dig_lt n
  obtain ⟨L, hL⟩ : ∃ L, L = dig n := ⟨_, rfl⟩
  rw [← hL] at hlen hvd hDg ht
  refine awp_sx prog_ok hP hnt [] [] [] [0, 1] (by kernel_rfl) (G := fun K => K (St.mk [(0, V.d (du l)), (1, V.d (D.int IntKind.i64 (↑s : Int)))] [] 1)) (fun K => by kernel_rfl) ?_
  refine awp_sx prog_ok hP hnt [] [.val (.d (du L))] [] [0, 1] (by kernel_rfl) (G := fun K => Fn Try.prog 212 [V.d (du l)] [] (V.d (du L)) [] ∧ K (St.mk [(0, V.d (du L)), (1, V.d (D.int IntKind.i64 (↑s : Int)))] [] 4)) (fun K => by kernel_rfl) ?_
  refine ⟨ht, ?_⟩
  refine awp_sx prog_ok hP hnt [(13, .int .i64 s)] [] [] [0, 1] (by kernel_rfl) (G := fun K => (if (0 : Int) > (↑s : Int) then (0 : Int) else (↑s : Int)) = (↑s : Int) ∧ K (St.mk [(0, V.d (du L)), (1, V.d (D.int IntKind.i64 (↑s : Int)))] [] 7)) (fun K => by kernel_rfl) ?_
  refine ⟨by rw [if_neg (show ¬ (0 : Int) > (s : Int) by omega)], ?_⟩
  refine awp_sx prog_ok hP hnt [(15, .int .i64 w), (17, .int .i64 r)] [] [] [0, 5, 6] (by kernel_rfl) (G := fun K => (32 : Int) ≠ (0 : Int) ∧ IntKind.i64.wrap ((↑s : Int).tdiv (32 : Int)) = (↑w : Int) ∧ (32 : Int) ≠ (0 : Int) ∧ (↑s : Int).tmod (32 : Int) = (↑r : Int) ∧ K (St.mk [(0, V.d (du L)), (5, V.d (D.int IntKind.i64 (↑w : Int))), (6, V.d (D.int IntKind.i64 (↑r : Int)))] [] 13)) (fun K => by kernel_rfl) ?_
  refine ⟨by omega, by rw [ew, w64] <;> omega, by omega, er, ?_⟩
  refine awp_seq_k fun K hK => ?_
  refine awp_sx prog_ok hP hnt [] [] [] [0, 5, 6, 21] (by kernel_rfl) (G := fun K => K (St.mk [(0, V.d (du L)), (5, V.d (D.int IntKind.i64 (↑w : Int))), (6, V.d (D.int IntKind.i64 (↑r : Int))), (21, V.d (D.bool (decide ((↑w : Int) ≥ (↑L.length : Int)))))] [] 17)) (fun K => by kernel_rfl) ?_
  refine awp_cond rfl (fun e => ?_) (fun e => awp_skip (hK _ ?_))
  · simp at e
    have h0 : n / (4294967296 ^ w * 2 ^ r) = 0 := by
      rw [← Nat.div_div_eq_div_mul]
      have : n < 4294967296 ^ w := by
        rw [← hvd]
        exact Nat.lt_of_lt_of_le (val_lt hDg) (Nat.pow_le_pow_right (by omega) e)
      rw [Nat.div_eq_of_lt this, Nat.zero_div]
    rw [h0, dig_zero]
    refine awp_sx prog_ok hP hnt [] [] [] [4] (by kernel_rfl) (G := fun K => K (St.mk [(4, V.nil)] [] 18)) (fun K => by kernel_rfl) ?_
    exact awp_ret ⟨.inl rfl, retNil rfl⟩
  simp at e
  refine awp_sx prog_ok hP hnt [] [] [] [6, 7] (by kernel_rfl) (G := fun K => ((u32s L).length = L.length * 1 ∧ (0 : Int) ≤ (↑w : Int) ∧ (↑w : Int) ≤ (↑L.length : Int)) ∧ (List.drop ((↑w : Int).toNat * 1) (u32s L)).length = (L.length - (↑w : Int).toNat) * 1 ∧ (L.length - (↑w : Int).toNat) * 4 ≤ 2 ^ 47 ∧ K (St.mk [(6, V.d (D.int IntKind.i64 (↑r : Int))), (7, V.own 20 0 (L.length - (↑w : Int).toNat) 1)] [(20, some (Blk.mk (List.drop ((↑w : Int).toNat * 1) (u32s L)) true))] 22)) (fun K => by kernel_rfl) ?_
  obtain ⟨M, hM⟩ : ∃ M, M = L.drop w := ⟨_, rfl⟩
  have hMl : M.length = L.length - w := by rw [hM, List.length_drop]
  have hMd : Dg M := fun y hy => hDg y (List.mem_of_mem_drop (hM ▸ hy))
  have hMv : val M = n / 4294967296 ^ w := by rw [hM, val_drop hDg, hvd]
  rw [Int.toNat_natCast, Nat.mul_one w, u32s_drop, ← hM, ← hMl]
  refine ⟨⟨by simp, by omega, by omega⟩, by simp, by omega, ?_⟩
  rw [← Nat.div_div_eq_div_mul, ← hMv]
  refine awp_cut (ι := List Nat) (fun o => ⟨[(7, .own 0 0 o.length 1)], [(0, some ⟨u32s o, true⟩)], 1⟩) (fun o => o.length = M.length ∧ Dg o ∧ val o = val M / 2 ^ r) ?_ ?_
  · refine awp_sx prog_ok hP hnt [] [] [] [6, 7, 27] (by kernel_rfl) (G := fun K => K (St.mk [(6, V.d (D.int IntKind.i64 (↑r : Int))), (7, V.own 20 0 M.length 1), (27, V.d (D.bool (decide ((↑r : Int) > (0 : Int)))))] [(20, some (Blk.mk (u32s M) true))] 24)) (fun K => by kernel_rfl) ?_
    refine awp_cond rfl (fun e => ?_) (fun e => awp_skip ⟨M, [(0, 20)], ⟨rfl, hMd, ?_⟩, ?_⟩)
    · simp at e
      refine awp_sx prog_ok hP hnt [] [] [] [6, 7, 29, 30] (by kernel_rfl) (G := fun K => K (St.mk [(6, V.d (D.int IntKind.i64 (↑r : Int))), (7, V.own 20 0 M.length 1), (29, V.d (D.int IntKind.i64 (↑M.length : Int))), (30, V.d (D.int IntKind.i64 (0 : Int)))] [(20, some (Blk.mk (u32s M) true))] 27)) (fun K => by kernel_rfl) ?_
      refine awp_block ?_
      refine awp_loop (ι := List Nat × List Nat) (fun ⟨P, R⟩ => ⟨[(6, .d (.int .i64 r)), (7, .own 0 0 M.length 1), (29, .d (.int .i64 M.length)), (30, .d (.int .i64 P.length))], [(0, some ⟨u32s (P ++ R), true⟩)], 1⟩)
        (fun ⟨P, R⟩ => P.length + R.length = M.length ∧ Dg P ∧ Dg R ∧ val P + 4294967296 ^ P.length * (val R / 2 ^ r) = val M / 2 ^ r) (fun ⟨P, R⟩ => R.length) ([], M) [(0, 20)] ?_ ?_ ?_
      · exact ⟨by simp, by simp [Dg], hMd, by simp [val]⟩
      · (constructor <;> simp [hl, envOk, memOk, conv, St.get, St.blk])
      rintro ⟨P, R⟩ ⟨hl1, hP1, hR, hv⟩
      refine awp_sx prog_ok hP hnt [] [] [] [6, 7, 29, 30, 31] (by kernel_rfl) (G := fun K => K (St.mk [(6, V.d (D.int IntKind.i64 (↑r : Int))), (7, V.own 0 0 M.length 1), (29, V.d (D.int IntKind.i64 (↑M.length : Int))), (30, V.d (D.int IntKind.i64 (↑P.length : Int))), (31, V.d (D.bool (decide ((↑P.length : Int) < (↑M.length : Int)))))] [(0, some (Blk.mk (u32s (P ++ R)) true))] 2)) (fun K => by kernel_rfl) ?_
      refine awp_seq_k fun K1 hK1 => ?_
      refine awp_cond rfl (fun e2 => awp_skip (hK1 _ ?_)) (fun e2 => awp_exit ⟨P ++ R, [(0, 0)], ?_, ?_⟩)
      · simp at e2
        obtain ⟨x, R, rfl⟩ : ∃ x R', R = x :: R' := by
          cases R with
          | nil => simp at hl1; omega
          | cons x R' => exact ⟨x, R', rfl⟩
        have hx32 := hR x (by simp)
        have hR1 : Dg R := fun y hy => hR y (by simp [hy])
        simp only [List.length_cons] at hl1
        obtain ⟨d1, d2, d3, d4⟩ := shr_digit (x := x) (y := R.headD 0) (r := r) (Y := val R) hx32 hr (val_head R hR1)
        have hsl := shl_u32 (x := R.headD 0) (r := 32 - r) (by omega)
        rw [show 32 - (32 - r) = r by omega] at d1 d4 hsl
        have hsr := shr_u32 (x := x) (r := r) (by omega)
        obtain ⟨D, hD⟩ : ∃ D, D = (R.headD 0 % 2 ^ r) * 2 ^ (32 - r) := ⟨_, rfl⟩
        obtain ⟨q, hq⟩ : ∃ q, q = x / 2 ^ r := ⟨_, rfl⟩
        rw [← hD] at d1 d2 d3 d4 hsl
        rw [← hq] at d1 d2 d3 hsr
        have hor := or_u32 (x := q) (y := D) (by omega) d4
        rw [d1] at hor
        have hget := get_mid [] P R x
        have hset := set_mid [] P R x (q + D)
        simp only [List.nil_append, List.length_nil, Nat.zero_add] at hget hset
        refine awp_seq_k fun K2 hK2 => ?_
        refine awp_block ?_
        refine awp_sx prog_ok hP hnt [] [] [] [6, 7, 8, 29, 30] (by kernel_rfl) (G := fun K => K (St.mk [(6, V.d (Abs.D.int IntKind.i64 (↑r : Int))), (7, V.own 0 0 M.length 1), (29, V.d (Abs.D.int IntKind.i64 (↑M.length : Int))), (30, V.d (Abs.D.int IntKind.i64 (↑P.length : Int))), (8, V.d (Abs.D.int IntKind.i64 (↑P.length : Int)))] [(0, some (Blk.mk (u32s (P ++ x :: R)) true))] 4)) (fun K => by kernel_rfl) ?_
        refine awp_sx prog_ok hP hnt [] [] [] [6, 7, 8, 9, 29, 30] (by kernel_rfl) (G := fun K => K (St.mk [(6, V.d (Abs.D.int IntKind.i64 (↑r : Int))), (7, V.own 0 0 M.length 1), (29, V.d (Abs.D.int IntKind.i64 (↑M.length : Int))), (30, V.d (Abs.D.int IntKind.i64 (↑P.length : Int))), (8, V.d (Abs.D.int IntKind.i64 (↑P.length : Int))), (9, V.d (Abs.D.int IntKind.u32 (0 : Int)))] [(0, some (Blk.mk (u32s (P ++ x :: R)) true))] 5)) (fun K => by kernel_rfl) ?_
        refine awp_cut (ι := Unit) (fun _ => ⟨[(6, .d (.int .i64 r)), (7, .own 0 0 M.length 1), (8, .d (.int .i64 P.length)), (9, .d (.int .u32 D)), (29, .d (.int .i64 M.length)), (30, .d (.int .i64 P.length))], [(0, some ⟨u32s (P ++ x :: R), true⟩)], 1⟩) (fun _ => True) ?_ ?_
        · refine awp_sx prog_ok hP hnt [(34, .int .i64 (P.length + 1 : Nat))] [] [] [6, 7, 8, 9, 29, 30, 37] (by kernel_rfl) (G := fun K => IntKind.i64.wrap ((↑P.length : Int) + (1 : Int)) = (↑(P.length + 1) : Int) ∧ K (St.mk [(6, V.d (Abs.D.int IntKind.i64 (↑r : Int))), (7, V.own 0 0 M.length 1), (29, V.d (Abs.D.int IntKind.i64 (↑M.length : Int))), (30, V.d (Abs.D.int IntKind.i64 (↑P.length : Int))), (8, V.d (Abs.D.int IntKind.i64 (↑P.length : Int))), (9, V.d (Abs.D.int IntKind.u32 (0 : Int))), (37, V.d (Abs.D.bool (decide ((↑(P.length + 1) : Int) < (↑M.length : Int)))))] [(0, some (Blk.mk (u32s (P ++ x :: R)) true))] 10)) (fun K => by kernel_rfl) ?_
          refine ⟨by rw [w64] <;> omega, ?_⟩
          refine awp_cond rfl (fun e3 => ?_) (fun e3 => awp_skip ⟨(), [(0, 0)], trivial, ?_⟩)
          · simp at e3
            obtain ⟨y, R', rfl⟩ : ∃ y R', R = y :: R' := by
              cases R with
              | nil => simp at hl1; omega
              | cons y R' => exact ⟨y, R', rfl⟩
            have hget2 : (P ++ x :: y :: R')[P.length + 1]? = some y := by
              rw [List.getElem?_append_right (by omega), show P.length + 1 - P.length = 1 by omega]; rfl
            refine awp_x prog_ok hP hnt [(40, .int .i64 (P.length + 1 : Nat)), (44, .int .i64 (32 - r : Nat)), (45, .int .u32 D)] [] [some [.int .u32 y]] [6, 7, 8, 9, 29, 30] (by kernel_rfl) (G := fun K => IntKind.i64.wrap ((↑P.length : Int) + (1 : Int)) = (↑(P.length + 1) : Int) ∧ ((0 : Int) ≤ (↑(P.length + 1) : Int) ∧ (↑(P.length + 1) : Int) < (↑M.length : Int)) ∧ (u32s (P ++ x :: y :: R'))[0 + (↑(P.length + 1) : Int).toNat * 1]? = some (Abs.D.int IntKind.u32 (↑y : Int)) ∧ IntKind.i64.wrap ((32 : Int) - (↑r : Int)) = (↑(32 - r) : Int) ∧ (0 : Int) ≤ (↑(32 - r) : Int) ∧ IntKind.u32.wrap ((↑y : Int) * (2 : Int) ^ min (↑(32 - r) : Int).toNat IntKind.u32.bits) = (↑D : Int) ∧ K (St.mk [(6, V.d (Abs.D.int IntKind.i64 (↑r : Int))), (7, V.own 0 0 M.length 1), (29, V.d (Abs.D.int IntKind.i64 (↑M.length : Int))), (30, V.d (Abs.D.int IntKind.i64 (↑P.length : Int))), (8, V.d (Abs.D.int IntKind.i64 (↑P.length : Int))), (9, V.d (Abs.D.int IntKind.u32 (↑D : Int)))] [(0, some (Blk.mk (u32s (P ++ x :: y :: R')) true))] 19)) (fun K => by kernel_rfl) ?_
            refine ⟨by rw [w64] <;> omega, ⟨by omega, by omega⟩, by rw [Int.toNat_natCast, Nat.zero_add, Nat.mul_one, u32s_get, hget2]; rfl, by rw [w64] <;> omega, by omega, hsl, (), [(0, 0)], trivial, ?_⟩
            (constructor <;> simp [hl, envOk, memOk, conv, St.get, St.blk])
          · simp at e3
            have hRn : R = [] := List.length_eq_zero_iff.1 (by omega)
            subst hRn
            have hD0 : D = 0 := by rw [hD]; simp
            rw [hD0]
            (constructor <;> simp [hl, envOk, memOk, conv, St.get, St.blk])
        intro _ _
        refine awp_x prog_ok hP hnt [(53, .int .u32 q), (55, .int .u32 (q + D : Nat))] [] [some [.int .u32 x]] [6, 7, 29, 30] (by kernel_rfl) (G := fun K => ((0 : Int) ≤ (↑P.length : Int) ∧ (↑P.length : Int) < (↑M.length : Int)) ∧ (u32s (P ++ x :: R))[0 + (↑P.length : Int).toNat * 1]? = some (Abs.D.int IntKind.u32 (↑x : Int)) ∧ (0 : Int) ≤ (↑r : Int) ∧ (↑x : Int).fdiv ((2 : Int) ^ min (↑r : Int).toNat IntKind.u32.bits) = (↑q : Int) ∧ IntKind.u32.wrap (↑(BitVec.ofInt IntKind.u32.bits (↑q : Int) ||| BitVec.ofInt IntKind.u32.bits (↑D : Int)).toNat : Int) = (↑(q + D) : Int) ∧ ((0 : Int) ≤ (↑P.length : Int) ∧ (↑P.length : Int) < (↑M.length : Int)) ∧ 0 + (↑P.length : Int).toNat * 1 + [Abs.D.int IntKind.u32 (↑(q + D) : Int)].length ≤ (u32s (P ++ x :: R)).length ∧ K (St.mk [(6, V.d (Abs.D.int IntKind.i64 (↑r : Int))), (7, V.own 0 0 M.length 1), (29, V.d (Abs.D.int IntKind.i64 (↑M.length : Int))), (30, V.d (Abs.D.int IntKind.i64 (↑P.length : Int)))] [(0, some (Blk.mk (setCells (u32s (P ++ x :: R)) (0 + (↑P.length : Int).toNat * 1) [Abs.D.int IntKind.u32 (↑(q + D) : Int)]) true))] 13)) (fun K => by kernel_rfl) ?_
        refine ⟨⟨by omega, by omega⟩, by rw [Int.toNat_natCast, Nat.zero_add, Nat.mul_one, u32s_get, hget]; rfl, by omega, hsr, hor, ⟨by omega, by omega⟩, by simp, hK2 _ ?_⟩
        rw [Int.toNat_natCast, Nat.zero_add, Nat.mul_one, setCells_u32, hset]
        refine awp_x prog_ok hP hnt [(57, .int .i64 ((P ++ [q + D]).length : Nat))] [] [] [6, 7, 29, 30] (by kernel_rfl) (G := fun K => IntKind.i64.wrap ((↑P.length : Int) + (1 : Int)) = (↑(P ++ [q + D]).length : Int) ∧ K (St.mk [(6, V.d (Abs.D.int IntKind.i64 (↑r : Int))), (7, V.own 0 0 M.length 1), (29, V.d (Abs.D.int IntKind.i64 (↑M.length : Int))), (30, V.d (Abs.D.int IntKind.i64 (↑(P ++ [q + D]).length : Int)))] [(0, some (Blk.mk (u32s (P ++ (q + D) :: R)) true))] 15)) (fun K => by kernel_rfl) ?_
        refine ⟨by rw [List.length_append, List.length_singleton, w64] <;> omega, (P ++ [q + D], R), [(0, 0)], ⟨⟨by simp; omega, dg_append hP1 (dg_one d3), hR1, ?_⟩, ?_⟩, ?_⟩
        · have hvx : val (x :: R) = x + 4294967296 * val R := rfl
          rw [val_append, List.length_append, List.length_singleton, Nat.pow_succ, ← hv, hvx, ← d2]
          simp only [val]
          generalize 4294967296 ^ P.length = A
          grind
        · show R.length < (x :: R).length
          simp
        · rw [show (P ++ (q + D) :: R) = P ++ [q + D] ++ R by simp]
          (constructor <;> simp [hl, envOk, memOk, conv, St.get, St.blk])
      · simp at e2
        have hR0 : R = [] := List.length_eq_zero_iff.1 (by omega)
        subst hR0
        simp [val] at hl1 hv
        rw [List.append_nil]
        exact ⟨hl1, hP1, hv⟩
      · have : (P ++ R).length = M.length := by simp; omega
        rw [this]
        (constructor <;> simp [hl, envOk, memOk, conv, St.get, St.blk])
    · simp at e
      rw [e, Nat.pow_zero, Nat.div_one]
    · (constructor <;> simp [hl, envOk, memOk, conv, St.get, St.blk])
  intro o ⟨ho1, ho2, ho3⟩
  have ht2 := trim_fn o (by omega) ho2
  rw [ho3] at ht2
  refine awp_sx prog_ok hP hnt [] [.val (.d (du (dig (val M / 2 ^ r))))] [] [4] (by kernel_rfl) (G := fun K => Fn Try.prog 212 [V.d (D.lst o.length (List.take (o.length * 1) (List.drop 0 (u32s o))))] [] (V.d (du (dig (val M / 2 ^ r)))) [] ∧ K (St.mk [(4, V.d (du (dig (val M / 2 ^ r))))] [(0, some (Blk.mk (u32s o) false))] 4)) (fun K => by kernel_rfl) ?_
  rw [Nat.mul_one, own_du rfl]
  exact ⟨ht2, awp_ret ⟨.inl rfl, retD rfl⟩⟩
end Go.Abs

set_option linter.unusedVariables false
set_option linter.unusedSimpArgs false
namespace Go.Abs
open Go
set_option maxRecDepth 100000

/-! ### The guess of a digit: U = X + E*M*W3, V = Y + M*(t*B + x) -/
structure Gs (U V E M t x u0 u1 u2 : Nat) : Prop where
  hU : ∃ X, U = X + E * M * ((u0 * 4294967296 + u1) * 4294967296 + u2) ∧ X < E * M
  hV : ∃ Y, V = Y + M * (t * 4294967296 + x) ∧ Y < M
  lt : U < V * (4294967296 * E)
  t0 : 0 < t
  tb : t < 4294967296
  xb : x < 4294967296
  u0b : u0 < 4294967296
  u1b : u1 < 4294967296
  u2b : u2 < 4294967296

variable {U V E M t x u0 u1 u2 g r : Nat}

theorem Gs.up (h : Gs U V E M t x u0 u1 u2) {a : Nat} (ha : (u0 * 4294967296 + u1) * 4294967296 + u2 < a * (t * 4294967296 + x)) : U < a * V * E := by
  obtain ⟨X, h1, h2⟩ := h.hU
  obtain ⟨Y, h3, h4⟩ := h.hV
  obtain ⟨W, hW⟩ : ∃ W, W = (u0 * 4294967296 + u1) * 4294967296 + u2 := ⟨_, rfl⟩
  obtain ⟨V2, hV2⟩ : ∃ V2, V2 = t * 4294967296 + x := ⟨_, rfl⟩
  rw [← hW] at h1 ha
  rw [← hV2] at h3 ha
  clear hW hV2
  have e1 : E * M * (W + 1) ≤ E * M * (a * V2) := Nat.mul_le_mul_left _ ha
  have e2 : E * M * (a * V2) ≤ a * V * E := by
    have e3 : M * V2 ≤ V := by omega
    have e4 := Nat.mul_le_mul_left (a * E) e3
    have e5 : a * E * (M * V2) = E * M * (a * V2) := by grind
    have e6 : a * E * V = a * V * E := by grind
    omega
  rw [Nat.mul_add, Nat.mul_one] at e1
  omega

theorem Gs.init (h : Gs U V E M t x u0 u1 u2) (hg : g * t + r = u0 * 4294967296 + u1) (hr : r < t) : U < (g + 1) * V * E := by
  refine h.up ?_
  have := h.u2b
  have e : (g + 1) * (t * 4294967296 + x) = (g * t + t) * 4294967296 + (g + 1) * x := by grind
  have e2 : (u0 * 4294967296 + u1 + 1) * 4294967296 ≤ (g * t + t) * 4294967296 := Nat.mul_le_mul_right _ (by omega)
  rw [e]
  generalize (g + 1) * x = z
  omega

theorem Gs.dec1 (h : Gs U V E M t x u0 u1 u2) (hg : 4294967296 ≤ g) : U < g * V * E := by
  have := h.lt
  have e := Nat.mul_le_mul_right (V * E) hg
  have e1 : V * (4294967296 * E) = 4294967296 * (V * E) := by grind
  have e2 : g * (V * E) = g * V * E := by grind
  omega

theorem Gs.dec2 (h : Gs U V E M t x u0 u1 u2) (hg : g * t + r = u0 * 4294967296 + u1) (hc : r * 4294967296 + u2 < g * x) : U < g * V * E := by
  refine h.up ?_
  have e : g * (t * 4294967296 + x) = g * t * 4294967296 + g * x := by grind
  rw [e]
  rw [← hg, Nat.add_mul, Nat.add_assoc]
  exact Nat.add_lt_add_left hc _

theorem Gs.u0t (h : Gs U V E M t x u0 u1 u2) : u0 ≤ t := by
  rcases Nat.lt_or_ge t u0 with hlt | hge
  · exfalso
    obtain ⟨X, h1, h2⟩ := h.hU
    obtain ⟨Y, h3, h4⟩ := h.hV
    have := h.lt
    have hE : 0 < E := by
      rcases Nat.eq_zero_or_pos E with h0 | h0
      · subst h0; simp at h2
      · exact h0
    have hx := h.xb
    have e1 : V < M * ((t + 1) * 4294967296) := by
      have : M * (t * 4294967296 + x + 1) ≤ M * ((t + 1) * 4294967296) := Nat.mul_le_mul_left _ (by omega)
      rw [Nat.mul_add, Nat.mul_one] at this
      omega
    have e2 : V * (4294967296 * E) < M * ((t + 1) * 4294967296) * (4294967296 * E) := Nat.mul_lt_mul_of_pos_right e1 (by omega)
    have e3 : E * M * ((t + 1) * 4294967296 * 4294967296) ≤ E * M * ((u0 * 4294967296 + u1) * 4294967296 + u2) := Nat.mul_le_mul_left _ (by omega)
    have e4 : M * ((t + 1) * 4294967296) * (4294967296 * E) = E * M * ((t + 1) * 4294967296 * 4294967296) := by grind
    omega
  · exact hge

theorem Gs.brk (h : Gs U V E M t x u0 u1 u2) (hg : g * t + r = u0 * 4294967296 + u1) (hr : 4294967296 ≤ r) : g < 4294967296 ∧ g * x ≤ r * 4294967296 + u2 := by
  have h0 := h.u0t
  have h1 := h.u1b
  have ht := h.t0
  have hx := h.xb
  have hglt : g < 4294967296 := by
    rcases Nat.lt_or_ge g 4294967296 with h | h
    · exact h
    · exfalso
      have := Nat.mul_le_mul_right t h
      omega
  refine ⟨hglt, ?_⟩
  have := Nat.mul_le_mul (Nat.le_of_lt hglt) (Nat.le_of_lt hx)
  omega

theorem Gs.fin (h : Gs U V E M t x u0 u1 u2) (hg : g * t + r = u0 * 4294967296 + u1) (hc : g * x ≤ r * 4294967296 + u2) (hgb : g < 4294967296) : g * V * E < U + V * E := by
  obtain ⟨X, h1, h2⟩ := h.hU
  obtain ⟨Y, h3, h4⟩ := h.hV
  have ht := h.t0
  have hM : 0 < M := by omega
  have hE : 0 < E := by
    rcases Nat.eq_zero_or_pos E with h0 | h0
    · subst h0; simp at h2
    · exact h0
  have e1 : g * (t * 4294967296 + x) ≤ (u0 * 4294967296 + u1) * 4294967296 + u2 := by
    have : g * (t * 4294967296 + x) = g * t * 4294967296 + g * x := by grind
    rw [this, ← hg]
    obtain ⟨z, hz⟩ : ∃ z, z = g * t := ⟨_, rfl⟩
    rw [← hz]
    omega
  obtain ⟨W, hW⟩ : ∃ W, W = (u0 * 4294967296 + u1) * 4294967296 + u2 := ⟨_, rfl⟩
  rw [← hW] at h1 e1
  clear hW
  have e2 : M * 4294967296 ≤ V := by
    have : M * 4294967296 ≤ M * (t * 4294967296 + x) := Nat.mul_le_mul_left _ (by omega)
    omega
  have e3 : g * Y < 4294967296 * M := Nat.mul_lt_mul'' hgb h4
  have e4 : g * V < M * W + V := by
    have : M * (g * (t * 4294967296 + x)) ≤ M * W := Nat.mul_le_mul_left _ e1
    have e5 : g * V = g * Y + M * (g * (t * 4294967296 + x)) := by rw [h3]; grind
    omega
  have e6 := Nat.mul_lt_mul_of_pos_right e4 hE
  have e7 : (M * W + V) * E = E * M * W + V * E := by grind
  omega

/-! ### Multiply and subtract -/
/-- one word: y - w - pl in 64 bits -/
theorem sub_word {y w pl : Nat} {T : Int} (hy : y < 4294967296) (hw : w ≤ 1) (hpl : pl < 4294967296) (hT : T = (y : Int) - w - pl) :
    ∃ d f : Nat, (T % 18446744073709551616 % 4294967296 = d) ∧ T % 18446744073709551616 / 9223372036854775808 = f ∧ f ≤ 1 ∧ d < 4294967296 ∧ d + w + pl = y + 4294967296 * f := by
  refine ⟨(T % 18446744073709551616 % 4294967296).toNat, (T % 18446744073709551616 / 9223372036854775808).toNat, by omega, by omega, by omega, by omega, by omega⟩

theorem msub_step {o O v : List Nat} {j i g c w d f x y pl c' : Nat} (ho : j + i < o.length) (hy : O[j + i]? = some y) (hx : v[i]? = some x)
    (hp : g * x + c = c' * 4294967296 + pl) (hd : d + w + pl = y + 4294967296 * f)
    (h : val (o.take (j + i)) + 4294967296 ^ j * (g * val (v.take i)) = val (O.take (j + i)) + 4294967296 ^ (j + i) * (c + w)) :
    val ((o.set (j + i) d).take (j + i + 1)) + 4294967296 ^ j * (g * val (v.take (i + 1))) = val (O.take (j + i + 1)) + 4294967296 ^ (j + i + 1) * (c' + f) := by
  rw [val_set ho, val_take_succ hy, val_take_succ hx, Nat.pow_succ]
  have e2 : 4294967296 ^ (j + i) = 4294967296 ^ j * 4294967296 ^ i := Nat.pow_add _ _ _
  generalize 4294967296 ^ j = A at *
  generalize 4294967296 ^ i = B at *
  generalize 4294967296 ^ (j + i) = C at *
  have : C * (g * x + c) = C * (c' * 4294967296 + pl) := by rw [hp]
  have : C * (d + w + pl) = C * (y + 4294967296 * f) := by rw [hd]
  grind

theorem addb_step {o O v : List Nat} {j i c d f x y : Nat} (ho : j + i < o.length) (hy : O[j + i]? = some y) (hx : v[i]? = some x)
    (hd : y + x + c = d + 4294967296 * f)
    (h : val (o.take (j + i)) + 4294967296 ^ (j + i) * c = val (O.take (j + i)) + 4294967296 ^ j * val (v.take i)) :
    val ((o.set (j + i) d).take (j + i + 1)) + 4294967296 ^ (j + i + 1) * f = val (O.take (j + i + 1)) + 4294967296 ^ j * val (v.take (i + 1)) := by
  rw [val_set ho, val_take_succ hy, val_take_succ hx, Nat.pow_succ]
  have e2 : 4294967296 ^ (j + i) = 4294967296 ^ j * 4294967296 ^ i := Nat.pow_add _ _ _
  generalize 4294967296 ^ j = A at *
  generalize 4294967296 ^ i = B at *
  generalize 4294967296 ^ (j + i) = C at *
  have : C * (y + x + c) = C * (d + 4294967296 * f) := by rw [hd]
  grind

/-- what the digits of the top say -/
theorem gs_of {u v : List Nat} {j m t x u0 u1 u2 : Nat} (hu : Dg u) (hv : Dg v) (hvl : v.length = m + 2) (ht : v[m + 1]? = some t) (hx : v[m]? = some x)
    (h0 : u[j + m + 2]? = some u0) (h1 : u[j + m + 1]? = some u1) (h2 : u[j + m]? = some u2) (hUt : val (u.take (j + m + 3)) = val u) (hlt : val u < val v * (4294967296 * 4294967296 ^ j)) (t0 : 0 < t) :
    Gs (val u) (val v) (4294967296 ^ j) (4294967296 ^ m) t x u0 u1 u2 where
  hU := by
    refine ⟨val (u.take (j + m)), ?_, by rw [← Nat.pow_add]; exact val_take_lt hu _⟩
    have e1 : 4294967296 ^ (j + m + 2) = 4294967296 ^ j * 4294967296 ^ m * 4294967296 * 4294967296 := by rw [show j + m + 2 = j + m + 1 + 1 by omega, Nat.pow_succ, Nat.pow_succ, Nat.pow_add]
    have e2 : 4294967296 ^ (j + m + 1) = 4294967296 ^ j * 4294967296 ^ m * 4294967296 := by rw [Nat.pow_succ, Nat.pow_add]
    have e3 : 4294967296 ^ (j + m) = 4294967296 ^ j * 4294967296 ^ m := Nat.pow_add _ _ _
    rw [← hUt, val_take_succ h0, val_take_succ h1, val_take_succ h2, e1, e2, e3]
    generalize 4294967296 ^ j = A
    generalize 4294967296 ^ m = B
    grind
  hV := by
    refine ⟨val (v.take m), ?_, val_take_lt hv _⟩
    have : val v = val (v.take (m + 2)) := by rw [List.take_of_length_le (by omega)]
    rw [this, val_take_succ ht, val_take_succ hx, Nat.pow_succ]
    generalize 4294967296 ^ m = B
    grind
  lt := hlt
  t0 := t0
  tb := dg_get hv ht
  xb := dg_get hv hx
  u0b := dg_get hu h0
  u1b := dg_get hu h1
  u2b := dg_get hu h2
end Go.Abs

set_option linter.unusedVariables false
set_option linter.unusedSimpArgs false
namespace Go.Abs
open Go Go.Proofs
set_option maxRecDepth 100000

/-- a part of a body -/
def part' : List Bool → Code → Code
  | [], c => c
  | false :: ps, .seq a _ => part' ps a
  | true :: ps, .seq _ b => part' ps b
  | _ :: ps, .block _ c => part' ps c
  | _ :: ps, .loop c => part' ps c
  | _ :: ps, .scope c => part' ps c
  | false :: ps, .cond _ a _ => part' ps a
  | true :: ps, .cond _ _ b => part' ps b
  | _, c => c

noncomputable abbrev longBody : Code := part' [true, true, true, true, true, true, true, true, true, true, true, true, false, true, true, true, true, false, true] (Try.f240.body.getD .skip)
noncomputable abbrev longGuess : Code := part' [true, false] longBody
noncomputable abbrev longSub : Code := part' [true, true, true, false] longBody
noncomputable abbrev longBack : Code := part' [true, true, true, true, true, true, true, true, true, true, false] longBody

noncomputable def longSt (m k0 s : Nat) (v u q : List Nat) (t x j : Nat) (more : List (Nat × V)) : St :=
  ⟨[(4, .own 1 0 k0 1), (6, .d (.int .i64 (m + 2 : Nat))), (10, .d (.int .i64 s)), (11, .d (du v)), (12, .own 0 0 (k0 + (m + 2)) 1), (13, .d (.int .u64 t)), (14, .d (.int .u64 x)), (15, .d (.int .i64 j))] ++ more, [(0, some ⟨u32s u, true⟩), (1, some ⟨u32s q, true⟩)], 2⟩

theorem guess_loop {Cx : Ctx} (hP : Cx.P = Try.prog) (hnt : Cx.nt = 251) (hl : Cx.lids = []) {Q : Exit → St → Prop} {m k0 s : Nat} {v u q : List Nat} {t x j V E M U0 U1 U2 gg rr : Nat}
    (hG : Gs (val u) V E M t x U0 U1 U2) (hjk : j < k0) (hul : u.length = k0 + (m + 2)) (hmk : k0 + (m + 2) ≤ 2 ^ 40)
    (g2 : u[j + m]? = some U2) (hgN : gg * t + rr = U0 * 4294967296 + U1) (hrt : rr < t) :
    AWP Cx longGuess (longSt m k0 s v u q t x j [(16, .d (.int .u64 gg)), (17, .d (.int .u64 rr))])
      (thenQ (fun s' => ∃ (g : Nat) (ρ : List (Nat × Nat)), (g < 4294967296 ∧ val u < (g + 1) * V * E ∧ g * V * E < val u + V * E) ∧ Weak Cx.lids ρ s' (longSt m k0 s v u q t x j [(16, .d (.int .u64 g))])) Q) := by
  have hU0 := hG.u0b
  have hU1 := hG.u1b
  have hU2 := hG.u2b
  have htb := hG.tb
  have hxb := hG.xb
  have ht0 := hG.t0
  have hut := hG.u0t
  have gu2 : (u32s u)[0 + ((j + m : Nat) : Int).toNat * 1]? = some (D.int .u32 U2) := by rw [Int.toNat_natCast, Nat.zero_add, Nat.mul_one, u32s_get, g2]; rfl
  have hj2 : IntKind.i64.wrap ((j : Int) + (m + 2 : Nat)) = (j + m + 2 : Nat) := by rw [w64] <;> omega
  have hj0 : IntKind.i64.wrap (IntKind.i64.wrap ((j : Int) + (m + 2 : Nat)) - 2) = (j + m : Nat) := by rw [hj2, w64] <;> omega
  have hg64 : gg < 18446744073709551616 := by
    have : gg * 1 ≤ gg * t := Nat.mul_le_mul_left _ ht0
    omega
  unfold longSt
  refine awp_block ?_
  refine awp_loop (ι := Nat × Nat) (fun ⟨g, r⟩ => ⟨[(4, .own 1 0 k0 1), (6, .d (.int .i64 (m + 2 : Nat))), (10, .d (.int .i64 s)), (11, .d (du v)), (12, .own 0 0 (k0 + (m + 2)) 1), (13, .d (.int .u64 t)), (14, .d (.int .u64 x)), (15, .d (.int .i64 j)), (16, .d (.int .u64 g)), (17, .d (.int .u64 r))], [(0, some ⟨u32s u, true⟩), (1, some ⟨u32s q, true⟩)], 2⟩)
    (fun ⟨g, r⟩ => g * t + r = U0 * 4294967296 + U1 ∧ r < 4294967296 ∧ val u < (g + 1) * V * E ∧ g < 18446744073709551616) (fun ⟨g, r⟩ => g) (gg, rr) [(0, 0), (1, 1)] ?_ ?_ ?_
  · exact ⟨hgN, by omega, hG.init hgN hrt, hg64⟩
  · (constructor <;> simp [hl, envOk, memOk, conv, St.get, St.blk])
  rintro ⟨g, r⟩ ⟨hgr, hr32, hgU, hg64⟩
  refine awp_cut (ι := Unit) (fun _ => ⟨[(4, .own 1 0 k0 1), (6, .d (.int .i64 (m + 2 : Nat))), (10, .d (.int .i64 s)), (11, .d (du v)), (12, .own 0 0 (k0 + (m + 2)) 1), (13, .d (.int .u64 t)), (14, .d (.int .u64 x)), (15, .d (.int .i64 j)), (16, .d (.int .u64 g)), (17, .d (.int .u64 r))], [(0, some ⟨u32s u, true⟩), (1, some ⟨u32s q, true⟩)], 2⟩)
    (fun _ => 1 ≤ g ∧ val u < g * V * E) ?_ ?_
  · by_cases hc : 4294967296 ≤ g
    · refine awp_sx prog_ok hP hnt [(116, .bool true)] [] [] [4, 6, 10, 11, 12, 13, 14, 15, 16, 17, 133] (by kernel_rfl) (G := fun K => decide ((↑g : Int) ≥ (4294967296 : Int)) = true ∧ K (St.mk [(4, Abs.V.own 1 0 k0 1), (6, Abs.V.d (D.int IntKind.i64 (↑(m + 2) : Int))), (10, Abs.V.d (D.int IntKind.i64 (↑s : Int))), (11, Abs.V.d (du v)), (12, Abs.V.own 0 0 (k0 + (m + 2)) 1), (13, Abs.V.d (D.int IntKind.u64 (↑t : Int))), (14, Abs.V.d (D.int IntKind.u64 (↑x : Int))), (15, Abs.V.d (D.int IntKind.i64 (↑j : Int))), (16, Abs.V.d (D.int IntKind.u64 (↑g : Int))), (17, Abs.V.d (D.int IntKind.u64 (↑r : Int))), (133, Abs.V.d (D.bool true))] [(0, some (Blk.mk (u32s u) true)), (1, some (Blk.mk (u32s q) true))] 21)) (fun K => by kernel_rfl) ?_
      refine ⟨by simp; omega, awp_cond (b := true) rfl (fun _ => awp_skip ⟨(), [(0, 0), (1, 1)], ⟨by omega, hG.dec1 hc⟩, ?_⟩) nofun⟩
      (constructor <;> simp [hl, envOk, memOk, conv, St.get, St.blk])
    · have hgx : g * x ≤ 4294967295 * 4294967295 := Nat.mul_le_mul (by omega) (by omega)
      have e3 := shl32 hr32
      have e4 := or_w hr32 hU2
      refine awp_sx prog_ok hP hnt [(116, .bool false), (120, .int .u64 (g * x : Nat)), (122, .int .u64 (r * 4294967296 : Nat)), (127, .int .i64 (j + m : Nat)), (130, .int .u64 U2), (131, .int .u64 (r * 4294967296 + U2 : Nat))] [] [some [.int .u32 U2]] [4, 6, 10, 11, 12, 13, 14, 15, 16, 17, 133] (by kernel_rfl) (G := fun K => decide ((↑g : Int) ≥ (4294967296 : Int)) = false ∧ IntKind.u64.wrap ((↑g : Int) * (↑x : Int)) = (↑(g * x) : Int) ∧ (0 : Int) ≤ (32 : Int) ∧ IntKind.u64.wrap ((↑r : Int) * (2 : Int) ^ min (Int.toNat (32 : Int)) IntKind.u64.bits) = (↑(r * 4294967296) : Int) ∧ IntKind.i64.wrap (IntKind.i64.wrap ((↑j : Int) + (↑(m + 2) : Int)) - (2 : Int)) = (↑(j + m) : Int) ∧ ((0 : Int) ≤ (↑(j + m) : Int) ∧ (↑(j + m) : Int) < (↑(k0 + (m + 2)) : Int)) ∧ (u32s u)[0 + (↑(j + m) : Int).toNat * 1]? = some (D.int IntKind.u32 (↑U2 : Int)) ∧ IntKind.u64.wrap (↑U2 : Int) = (↑U2 : Int) ∧ IntKind.u64.wrap (↑(BitVec.ofInt IntKind.u64.bits (↑(r * 4294967296) : Int) ||| BitVec.ofInt IntKind.u64.bits (↑U2 : Int)).toNat : Int) = (↑(r * 4294967296 + U2) : Int) ∧ K (St.mk [(4, Abs.V.own 1 0 k0 1), (6, Abs.V.d (D.int IntKind.i64 (↑(m + 2) : Int))), (10, Abs.V.d (D.int IntKind.i64 (↑s : Int))), (11, Abs.V.d (du v)), (12, Abs.V.own 0 0 (k0 + (m + 2)) 1), (13, Abs.V.d (D.int IntKind.u64 (↑t : Int))), (14, Abs.V.d (D.int IntKind.u64 (↑x : Int))), (15, Abs.V.d (D.int IntKind.i64 (↑j : Int))), (16, Abs.V.d (D.int IntKind.u64 (↑g : Int))), (17, Abs.V.d (D.int IntKind.u64 (↑r : Int))), (133, Abs.V.d (D.bool (decide ((↑(g * x) : Int) > (↑(r * 4294967296 + U2) : Int)))))] [(0, some (Blk.mk (u32s u) true)), (1, some (Blk.mk (u32s q) true))] 21)) (fun K => by kernel_rfl) ?_
      refine ⟨by simp; omega, by rw [← Int.natCast_mul, u64w] <;> omega, by omega, e3, hj0, ⟨by omega, by omega⟩, gu2, u64w (by omega) (by omega), e4, ?_⟩
      refine awp_cond rfl (fun e5 => awp_skip ⟨(), [(0, 0), (1, 1)], ?_, ?_⟩) (fun e5 => awp_exit ⟨g, [(0, 0), (1, 1)], ?_, ?_⟩)
      · have e6 := of_decide_eq_true e5
        have e7 : r * 4294967296 + U2 < g * x := by exact_mod_cast e6
        refine ⟨?_, hG.dec2 hgr e7⟩
        rcases Nat.eq_zero_or_pos g with h | h
        · subst h; rw [Nat.zero_mul] at e7; omega
        · exact h
      · (constructor <;> simp [hl, envOk, memOk, conv, St.get, St.blk])
      · have e6 := of_decide_eq_false e5
        have e7 : g * x ≤ r * 4294967296 + U2 := by
          rcases Nat.lt_or_ge (r * 4294967296 + U2) (g * x) with h | h
          · exact absurd (by exact_mod_cast h) e6
          · exact h
        exact ⟨by omega, hgU, hG.fin hgr e7 (by omega)⟩
      · (constructor <;> simp [hl, envOk, memOk, conv, St.get, St.blk])
  intro _ ⟨hg1, hgU2⟩
  have hgr2 : (g - 1) * t + (r + t) = U0 * 4294967296 + U1 := by
    rw [← hgr]
    obtain ⟨g', rfl⟩ : ∃ g', g = g' + 1 := ⟨g - 1, by omega⟩
    rw [Nat.add_sub_cancel, Nat.add_mul, Nat.one_mul]
    omega
  refine awp_block ?_
  refine awp_sx prog_ok hP hnt [(135, .int .u64 (g - 1 : Nat))] [] [] [4, 6, 10, 11, 12, 13, 14, 15, 16, 17] (by kernel_rfl) (G := fun K => IntKind.u64.wrap ((↑g : Int) - (1 : Int)) = (↑(g - 1) : Int) ∧ K (St.mk [(4, Abs.V.own 1 0 k0 1), (6, Abs.V.d (D.int IntKind.i64 (↑(m + 2) : Int))), (10, Abs.V.d (D.int IntKind.i64 (↑s : Int))), (11, Abs.V.d (du v)), (12, Abs.V.own 0 0 (k0 + (m + 2)) 1), (13, Abs.V.d (D.int IntKind.u64 (↑t : Int))), (14, Abs.V.d (D.int IntKind.u64 (↑x : Int))), (15, Abs.V.d (D.int IntKind.i64 (↑j : Int))), (16, Abs.V.d (D.int IntKind.u64 (↑(g - 1) : Int))), (17, Abs.V.d (D.int IntKind.u64 (↑r : Int)))] [(0, some (Blk.mk (u32s u) true)), (1, some (Blk.mk (u32s q) true))] 5)) (fun K => by kernel_rfl) ?_
  refine ⟨by rw [u64w] <;> omega, ?_⟩
  refine awp_sx prog_ok hP hnt [(138, .int .u64 (r + t : Nat))] [] [] [4, 6, 10, 11, 12, 13, 14, 15, 16, 17] (by kernel_rfl) (G := fun K => IntKind.u64.wrap ((↑r : Int) + (↑t : Int)) = (↑(r + t) : Int) ∧ K (St.mk [(4, Abs.V.own 1 0 k0 1), (6, Abs.V.d (D.int IntKind.i64 (↑(m + 2) : Int))), (10, Abs.V.d (D.int IntKind.i64 (↑s : Int))), (11, Abs.V.d (du v)), (12, Abs.V.own 0 0 (k0 + (m + 2)) 1), (13, Abs.V.d (D.int IntKind.u64 (↑t : Int))), (14, Abs.V.d (D.int IntKind.u64 (↑x : Int))), (15, Abs.V.d (D.int IntKind.i64 (↑j : Int))), (16, Abs.V.d (D.int IntKind.u64 (↑(g - 1) : Int))), (17, Abs.V.d (D.int IntKind.u64 (↑(r + t) : Int)))] [(0, some (Blk.mk (u32s u) true)), (1, some (Blk.mk (u32s q) true))] 9)) (fun K => by kernel_rfl) ?_
  refine ⟨by rw [u64w] <;> omega, ?_⟩
  refine awp_sx prog_ok hP hnt [] [] [] [4, 6, 10, 11, 12, 13, 14, 15, 16, 17, 140] (by kernel_rfl) (G := fun K => K (St.mk [(4, Abs.V.own 1 0 k0 1), (6, Abs.V.d (D.int IntKind.i64 (↑(m + 2) : Int))), (10, Abs.V.d (D.int IntKind.i64 (↑s : Int))), (11, Abs.V.d (du v)), (12, Abs.V.own 0 0 (k0 + (m + 2)) 1), (13, Abs.V.d (D.int IntKind.u64 (↑t : Int))), (14, Abs.V.d (D.int IntKind.u64 (↑x : Int))), (15, Abs.V.d (D.int IntKind.i64 (↑j : Int))), (16, Abs.V.d (D.int IntKind.u64 (↑(g - 1) : Int))), (17, Abs.V.d (D.int IntKind.u64 (↑(r + t) : Int))), (140, Abs.V.d (D.bool (decide ((↑(r + t) : Int) ≥ (4294967296 : Int)))))] [(0, some (Blk.mk (u32s u) true)), (1, some (Blk.mk (u32s q) true))] 11)) (fun K => by kernel_rfl) ?_
  refine awp_cond rfl (fun e5 => awp_exit ⟨g - 1, [(0, 0), (1, 1)], ?_, ?_⟩) (fun e5 => awp_skip ⟨(g - 1, r + t), [(0, 0), (1, 1)], ?_, ?_⟩)
  · simp at e5
    obtain ⟨h1, h2⟩ := hG.brk hgr2 (by omega)
    refine ⟨h1, ?_, hG.fin hgr2 h2 h1⟩
    rw [show g - 1 + 1 = g by omega]; exact hgU2
  · (constructor <;> simp [hl, envOk, memOk, conv, St.get, St.blk])
  · simp at e5
    refine ⟨⟨hgr2, by omega, ?_, by omega⟩, by show g - 1 < g; omega⟩
    rw [show g - 1 + 1 = g by omega]; exact hgU2
  · (constructor <;> simp [hl, envOk, memOk, conv, St.get, St.blk])
end Go.Abs

set_option linter.unusedVariables false
set_option linter.unusedSimpArgs false
namespace Go.Abs
open Go Go.Proofs
set_option maxRecDepth 100000

theorem and_u64 {p : Nat} (hp : p < 18446744073709551616) : IntKind.u64.wrap (BitVec.ofInt IntKind.u64.bits (p : Int) &&& BitVec.ofInt IntKind.u64.bits 4294967295).toNat = (p % 4294967296 : Nat) := by
  show IntKind.u64.wrap (BitVec.ofInt 64 (p : Int) &&& BitVec.ofInt 64 4294967295).toNat = _
  rw [BitVec.toNat_and, BitVec.ofInt_natCast, BitVec.toNat_ofNat, Nat.mod_eq_of_lt hp, show (BitVec.ofInt 64 4294967295).toNat = 2 ^ 32 - 1 from rfl, Nat.and_two_pow_sub_one_eq_mod]
  exact u64w (by omega) (by omega)

theorem sub_loop {Cx : Ctx} (hP : Cx.P = Try.prog) (hnt : Cx.nt = 251) (hl : Cx.lids = []) {Q : Exit → St → Prop} {m k0 s : Nat} {v u q : List Nat} {t x j g : Nat}
    (hud : Dg u) (hvd : Dg v) (hjk : j < k0) (hul : u.length = k0 + (m + 2)) (hvl : v.length = m + 2) (hmk : k0 + (m + 2) ≤ 2 ^ 40) (hg : g < 4294967296) :
    AWP Cx longSub (longSt m k0 s v u q t x j [(16, .d (.int .u64 g)), (18, .d (.int .u64 (0 : Nat))), (19, .d (.int .u64 (0 : Nat)))])
      (thenQ (fun s' => ∃ (z : List Nat × Nat × Nat) (ρ : List (Nat × Nat)), (z.1.length = u.length ∧ Dg z.1 ∧ z.1.drop (j + (m + 2)) = u.drop (j + (m + 2)) ∧ z.2.1 < 4294967296 ∧ z.2.2 ≤ 1 ∧
        val (z.1.take (j + (m + 2))) + 4294967296 ^ j * (g * val v) = val (u.take (j + (m + 2))) + 4294967296 ^ (j + (m + 2)) * (z.2.1 + z.2.2)) ∧
        Weak Cx.lids ρ s' (longSt m k0 s v z.1 q t x j [(16, .d (.int .u64 g)), (18, .d (.int .u64 z.2.1)), (19, .d (.int .u64 z.2.2))])) Q) := by
  unfold longSt
  refine awp_sx prog_ok hP hnt [] [] [] [4, 6, 10, 11, 12, 13, 14, 15, 16, 18, 19, 141, 142, 143] (by kernel_rfl) (G := fun K => K (St.mk [(4, V.own 1 0 k0 1), (6, V.d (D.int IntKind.i64 (↑(m + 2) : Int))), (10, V.d (D.int IntKind.i64 (↑s : Int))), (11, V.d (du v)), (12, V.own 0 0 (k0 + (m + 2)) 1), (13, V.d (D.int IntKind.u64 (↑t : Int))), (14, V.d (D.int IntKind.u64 (↑x : Int))), (15, V.d (D.int IntKind.i64 (↑j : Int))), (16, V.d (D.int IntKind.u64 (↑g : Int))), (18, V.d (D.int IntKind.u64 (↑0 : Int))), (19, V.d (D.int IntKind.u64 (↑0 : Int))), (141, V.d (du v)), (142, V.d (D.int IntKind.i64 (↑v.length : Int))), (143, V.d (D.int IntKind.i64 (0 : Int)))] [(0, some (Blk.mk (u32s u) true)), (1, some (Blk.mk (u32s q) true))] 5)) (fun K => by kernel_rfl) ?_
  refine awp_block ?_
  refine awp_loop (ι := Nat × List Nat × Nat × Nat) (fun ⟨i, o, c, w⟩ => ⟨[(4, .own 1 0 k0 1), (6, .d (.int .i64 (m + 2 : Nat))), (10, .d (.int .i64 s)), (11, .d (du v)), (12, .own 0 0 (k0 + (m + 2)) 1), (13, .d (.int .u64 t)), (14, .d (.int .u64 x)), (15, .d (.int .i64 j)), (16, .d (.int .u64 g)), (18, .d (.int .u64 c)), (19, .d (.int .u64 w)), (141, .d (du v)), (142, .d (.int .i64 (m + 2 : Nat))), (143, .d (.int .i64 i))], [(0, some ⟨u32s o, true⟩), (1, some ⟨u32s q, true⟩)], 2⟩)
    (fun ⟨i, o, c, w⟩ => i ≤ m + 2 ∧ o.length = u.length ∧ Dg o ∧ o.drop (j + i) = u.drop (j + i) ∧ c < 4294967296 ∧ w ≤ 1 ∧ val (o.take (j + i)) + 4294967296 ^ j * (g * val (v.take i)) = val (u.take (j + i)) + 4294967296 ^ (j + i) * (c + w)) (fun ⟨i, o, c, w⟩ => m + 2 - i) (0, u, 0, 0) [(0, 0), (1, 1)] ?_ ?_ ?_
  · refine ⟨by omega, rfl, hud, rfl, by omega, by omega, ?_⟩
    simp [val]
  · rw [← hvl]
    (constructor <;> simp [hl, envOk, memOk, conv, St.get, St.blk])
  rintro ⟨i, o, c, w⟩ ⟨hi, hol, hod, hdr, hc, hw, hv⟩
  refine awp_sx prog_ok hP hnt [] [] [] [4, 6, 10, 11, 12, 13, 14, 15, 16, 18, 19, 141, 142, 143, 144] (by kernel_rfl) (G := fun K => K (St.mk [(4, V.own 1 0 k0 1), (6, V.d (D.int IntKind.i64 (↑(m + 2) : Int))), (10, V.d (D.int IntKind.i64 (↑s : Int))), (11, V.d (du v)), (12, V.own 0 0 (k0 + (m + 2)) 1), (13, V.d (D.int IntKind.u64 (↑t : Int))), (14, V.d (D.int IntKind.u64 (↑x : Int))), (15, V.d (D.int IntKind.i64 (↑j : Int))), (16, V.d (D.int IntKind.u64 (↑g : Int))), (18, V.d (D.int IntKind.u64 (↑c : Int))), (19, V.d (D.int IntKind.u64 (↑w : Int))), (141, V.d (du v)), (142, V.d (D.int IntKind.i64 (↑(m + 2) : Int))), (143, V.d (D.int IntKind.i64 (↑i : Int))), (144, V.d (D.bool (decide ((↑i : Int) < (↑(m + 2) : Int)))))] [(0, some (Blk.mk (u32s o) true)), (1, some (Blk.mk (u32s q) true))] 3)) (fun K => by kernel_rfl) ?_
  refine awp_seq_k fun K1 hK1 => ?_
  refine awp_cond rfl (fun e => awp_skip (hK1 _ ?_)) (fun e => awp_exit ⟨(o, c, w), [(0, 0), (1, 1)], ?_, ?_⟩)
  · simp at e
    obtain ⟨X, gx⟩ := get_ex (l := v) (i := i) (by omega)
    obtain ⟨Y, gy⟩ := get_ex (l := u) (i := j + i) (by omega)
    have goy : o[j + i]? = some Y := by rw [get_drop_eq hdr (Nat.le_refl _)]; exact gy
    have hX := dg_get hvd gx
    have hY := dg_get hud gy
    refine awp_seq_k fun K2 hK2 => ?_
    refine awp_block ?_
    refine awp_sx prog_ok hP hnt [] [] [some [.int .u32 X]] [4, 6, 10, 11, 12, 13, 14, 15, 16, 18, 19, 20, 21, 141, 142, 143] (by kernel_rfl) (G := fun K => ((0 : Int) ≤ (↑i : Int) ∧ (↑i : Int) < (↑v.length : Int) ∧ ((↑i : Int).toNat + 1) * 1 ≤ (u32s v).length) ∧ (List.drop ((↑i : Int).toNat * 1) (u32s v))[0]? = some (D.int IntKind.u32 (↑X : Int)) ∧ K (St.mk [(4, V.own 1 0 k0 1), (6, V.d (D.int IntKind.i64 (↑(m + 2) : Int))), (10, V.d (D.int IntKind.i64 (↑s : Int))), (11, V.d (du v)), (12, V.own 0 0 (k0 + (m + 2)) 1), (13, V.d (D.int IntKind.u64 (↑t : Int))), (14, V.d (D.int IntKind.u64 (↑x : Int))), (15, V.d (D.int IntKind.i64 (↑j : Int))), (16, V.d (D.int IntKind.u64 (↑g : Int))), (18, V.d (D.int IntKind.u64 (↑c : Int))), (19, V.d (D.int IntKind.u64 (↑w : Int))), (141, V.d (du v)), (142, V.d (D.int IntKind.i64 (↑(m + 2) : Int))), (143, V.d (D.int IntKind.i64 (↑i : Int))), (20, V.d (D.int IntKind.i64 (↑i : Int))), (21, V.d (D.int IntKind.u32 (↑X : Int)))] [(0, some (Blk.mk (u32s o) true)), (1, some (Blk.mk (u32s q) true))] 8)) (fun K => by kernel_rfl) ?_
    have hgX : g * X ≤ 4294967295 * 4294967295 := Nat.mul_le_mul (by omega) (by omega)
    obtain ⟨p, hp⟩ : ∃ p, p = g * X + c := ⟨_, rfl⟩
    have hp64 : p < 18446744073709551616 := by omega
    refine ⟨⟨by omega, by omega, by simp; omega⟩, by rw [Int.toNat_natCast, Nat.mul_one, List.getElem?_drop, Nat.add_zero, u32s_get, gx]; rfl, ?_⟩
    refine awp_sx prog_ok hP hnt [(150, .int .u64 X), (151, .int .u64 (g * X : Nat)), (153, .int .u64 p)] [] [] [4, 6, 10, 11, 12, 13, 14, 15, 16, 19, 20, 22, 141, 142, 143] (by kernel_rfl) (G := fun K => IntKind.u64.wrap (↑X : Int) = (↑X : Int) ∧ IntKind.u64.wrap ((↑g : Int) * (↑X : Int)) = (↑(g * X) : Int) ∧ IntKind.u64.wrap ((↑(g * X) : Int) + (↑c : Int)) = (↑p : Int) ∧ K (St.mk [(4, V.own 1 0 k0 1), (6, V.d (D.int IntKind.i64 (↑(m + 2) : Int))), (10, V.d (D.int IntKind.i64 (↑s : Int))), (11, V.d (du v)), (12, V.own 0 0 (k0 + (m + 2)) 1), (13, V.d (D.int IntKind.u64 (↑t : Int))), (14, V.d (D.int IntKind.u64 (↑x : Int))), (15, V.d (D.int IntKind.i64 (↑j : Int))), (16, V.d (D.int IntKind.u64 (↑g : Int))), (19, V.d (D.int IntKind.u64 (↑w : Int))), (141, V.d (du v)), (142, V.d (D.int IntKind.i64 (↑(m + 2) : Int))), (143, V.d (D.int IntKind.i64 (↑i : Int))), (20, V.d (D.int IntKind.i64 (↑i : Int))), (22, V.d (D.int IntKind.u64 (↑p : Int)))] [(0, some (Blk.mk (u32s o) true)), (1, some (Blk.mk (u32s q) true))] 15)) (fun K => by kernel_rfl) ?_
    refine ⟨u64w (by omega) (by omega), by rw [← Int.natCast_mul, u64w] <;> omega, by rw [u64w] <;> omega, ?_⟩
    refine awp_sx prog_ok hP hnt [(155, .int .u64 (p / 4294967296 : Nat))] [] [] [4, 6, 10, 11, 12, 13, 14, 15, 16, 18, 19, 20, 22, 141, 142, 143] (by kernel_rfl) (G := fun K => (0 : Int) ≤ (32 : Int) ∧ (↑p : Int).fdiv ((2 : Int) ^ min (Int.toNat (32 : Int)) IntKind.u64.bits) = (↑(p / 4294967296) : Int) ∧ K (St.mk [(4, V.own 1 0 k0 1), (6, V.d (D.int IntKind.i64 (↑(m + 2) : Int))), (10, V.d (D.int IntKind.i64 (↑s : Int))), (11, V.d (du v)), (12, V.own 0 0 (k0 + (m + 2)) 1), (13, V.d (D.int IntKind.u64 (↑t : Int))), (14, V.d (D.int IntKind.u64 (↑x : Int))), (15, V.d (D.int IntKind.i64 (↑j : Int))), (16, V.d (D.int IntKind.u64 (↑g : Int))), (19, V.d (D.int IntKind.u64 (↑w : Int))), (141, V.d (du v)), (142, V.d (D.int IntKind.i64 (↑(m + 2) : Int))), (143, V.d (D.int IntKind.i64 (↑i : Int))), (20, V.d (D.int IntKind.i64 (↑i : Int))), (22, V.d (D.int IntKind.u64 (↑p : Int))), (18, V.d (D.int IntKind.u64 (↑(p / 4294967296) : Int)))] [(0, some (Blk.mk (u32s o) true)), (1, some (Blk.mk (u32s q) true))] 18)) (fun K => by kernel_rfl) ?_
    refine ⟨by omega, fdivN p 32, ?_⟩
    obtain ⟨d, f, hd1, hf1, hf2, hd2, hd3⟩ := sub_word hY hw (show p % 4294967296 < 4294967296 by omega) rfl
    have hji : IntKind.i64.wrap ((i : Int) + j) = (j + i : Nat) := by rw [w64] <;> omega
    have hT : IntKind.u64.wrap (IntKind.u64.wrap ((Y : Int) - w) - (p % 4294967296 : Nat)) = ((Y : Int) - w - (p % 4294967296 : Nat)) % 18446744073709551616 := by
      rw [IntKind.wrap_u64, IntKind.wrap_u64]; omega
    obtain ⟨T, hT0⟩ : ∃ T : Nat, (T : Int) = ((Y : Int) - w - (p % 4294967296 : Nat)) % 18446744073709551616 := ⟨(((Y : Int) - w - (p % 4294967296 : Nat)) % 18446744073709551616).toNat, by omega⟩
    rw [← hT0] at hT hd1 hf1
    refine awp_sx prog_ok hP hnt [(159, .int .i64 (j + i : Nat)), (162, .int .u64 Y), (166, .int .u64 (p % 4294967296 : Nat)), (167, .int .u64 T)] [] [some [.int .u32 Y]] [4, 6, 10, 11, 12, 13, 14, 15, 16, 18, 20, 23, 141, 142, 143] (by kernel_rfl) (G := fun K => IntKind.i64.wrap ((↑i : Int) + (↑j : Int)) = (↑(j + i) : Int) ∧ ((0 : Int) ≤ (↑(j + i) : Int) ∧ (↑(j + i) : Int) < (↑(k0 + (m + 2)) : Int)) ∧ (u32s o)[0 + (↑(j + i) : Int).toNat * 1]? = some (D.int IntKind.u32 (↑Y : Int)) ∧ IntKind.u64.wrap (↑Y : Int) = (↑Y : Int) ∧ IntKind.u64.wrap (↑(BitVec.ofInt IntKind.u64.bits (↑p : Int) &&& BitVec.ofInt IntKind.u64.bits (4294967295 : Int)).toNat : Int) = (↑(p % 4294967296) : Int) ∧ IntKind.u64.wrap (IntKind.u64.wrap ((↑Y : Int) - (↑w : Int)) - (↑(p % 4294967296) : Int)) = (↑T : Int) ∧ K (St.mk [(4, V.own 1 0 k0 1), (6, V.d (D.int IntKind.i64 (↑(m + 2) : Int))), (10, V.d (D.int IntKind.i64 (↑s : Int))), (11, V.d (du v)), (12, V.own 0 0 (k0 + (m + 2)) 1), (13, V.d (D.int IntKind.u64 (↑t : Int))), (14, V.d (D.int IntKind.u64 (↑x : Int))), (15, V.d (D.int IntKind.i64 (↑j : Int))), (16, V.d (D.int IntKind.u64 (↑g : Int))), (141, V.d (du v)), (142, V.d (D.int IntKind.i64 (↑(m + 2) : Int))), (143, V.d (D.int IntKind.i64 (↑i : Int))), (20, V.d (D.int IntKind.i64 (↑i : Int))), (18, V.d (D.int IntKind.u64 (↑(p / 4294967296) : Int))), (23, V.d (D.int IntKind.u64 (↑T : Int)))] [(0, some (Blk.mk (u32s o) true)), (1, some (Blk.mk (u32s q) true))] 31)) (fun K => by kernel_rfl) ?_
    refine ⟨hji, ⟨by omega, by omega⟩, by rw [Int.toNat_natCast, Nat.zero_add, Nat.mul_one, u32s_get, goy]; rfl, u64w (by omega) (by omega), and_u64 hp64, hT, ?_⟩
    refine awp_sx prog_ok hP hnt [(171, .int .i64 (j + i : Nat)), (173, .int .u32 d)] [] [] [4, 6, 10, 11, 12, 13, 14, 15, 16, 18, 23, 141, 142, 143] (by kernel_rfl) (G := fun K => IntKind.i64.wrap ((↑i : Int) + (↑j : Int)) = (↑(j + i) : Int) ∧ IntKind.u32.wrap (↑T : Int) = (↑d : Int) ∧ ((0 : Int) ≤ (↑(j + i) : Int) ∧ (↑(j + i) : Int) < (↑(k0 + (m + 2)) : Int)) ∧ 0 + (↑(j + i) : Int).toNat * 1 + [D.int IntKind.u32 (↑d : Int)].length ≤ (u32s o).length ∧ K (St.mk [(4, V.own 1 0 k0 1), (6, V.d (D.int IntKind.i64 (↑(m + 2) : Int))), (10, V.d (D.int IntKind.i64 (↑s : Int))), (11, V.d (du v)), (12, V.own 0 0 (k0 + (m + 2)) 1), (13, V.d (D.int IntKind.u64 (↑t : Int))), (14, V.d (D.int IntKind.u64 (↑x : Int))), (15, V.d (D.int IntKind.i64 (↑j : Int))), (16, V.d (D.int IntKind.u64 (↑g : Int))), (141, V.d (du v)), (142, V.d (D.int IntKind.i64 (↑(m + 2) : Int))), (143, V.d (D.int IntKind.i64 (↑i : Int))), (18, V.d (D.int IntKind.u64 (↑(p / 4294967296) : Int))), (23, V.d (D.int IntKind.u64 (↑T : Int)))] [(0, some (Blk.mk (setCells (u32s o) (0 + (↑(j + i) : Int).toNat * 1) [D.int IntKind.u32 (↑d : Int)]) true)), (1, some (Blk.mk (u32s q) true))] 39)) (fun K => by kernel_rfl) ?_
    refine ⟨hji, by rw [IntKind.wrap_u32]; omega, ⟨by omega, by omega⟩, by simp; omega, ?_⟩
    have hsh : (T : Int).fdiv (2 ^ (min (Int.toNat 63) IntKind.u64.bits)) = (f : Int) := by
      show (T : Int).fdiv (2 ^ 63) = _
      rw [fdivN]; omega
    refine awp_x prog_ok hP hnt [(176, .int .u64 f)] [] [] [4, 6, 10, 11, 12, 13, 14, 15, 16, 18, 19, 141, 142, 143] (by kernel_rfl) (G := fun K => (0 : Int) ≤ (63 : Int) ∧ (↑T : Int).fdiv ((2 : Int) ^ min (Int.toNat (63 : Int)) IntKind.u64.bits) = (↑f : Int) ∧ K (St.mk [(4, V.own 1 0 k0 1), (6, V.d (D.int IntKind.i64 (↑(m + 2) : Int))), (10, V.d (D.int IntKind.i64 (↑s : Int))), (11, V.d (du v)), (12, V.own 0 0 (k0 + (m + 2)) 1), (13, V.d (D.int IntKind.u64 (↑t : Int))), (14, V.d (D.int IntKind.u64 (↑x : Int))), (15, V.d (D.int IntKind.i64 (↑j : Int))), (16, V.d (D.int IntKind.u64 (↑g : Int))), (141, V.d (du v)), (142, V.d (D.int IntKind.i64 (↑(m + 2) : Int))), (143, V.d (D.int IntKind.i64 (↑i : Int))), (18, V.d (D.int IntKind.u64 (↑(p / 4294967296) : Int))), (19, V.d (D.int IntKind.u64 (↑f : Int)))] [(0, some (Blk.mk (setCells (u32s o) (0 + (↑(j + i) : Int).toNat * 1) [D.int IntKind.u32 (↑d : Int)]) true)), (1, some (Blk.mk (u32s q) true))] 42)) (fun K => by kernel_rfl) ?_
    refine ⟨by omega, hsh, hK2 _ ?_⟩
    refine awp_x prog_ok hP hnt [(177, .int .i64 (i + 1 : Nat))] [] [] [4, 6, 10, 11, 12, 13, 14, 15, 16, 18, 19, 141, 142, 143] (by kernel_rfl) (G := fun K => IntKind.i64.wrap ((↑i : Int) + (1 : Int)) = (↑(i + 1) : Int) ∧ K (St.mk [(4, V.own 1 0 k0 1), (6, V.d (D.int IntKind.i64 (↑(m + 2) : Int))), (10, V.d (D.int IntKind.i64 (↑s : Int))), (11, V.d (du v)), (12, V.own 0 0 (k0 + (m + 2)) 1), (13, V.d (D.int IntKind.u64 (↑t : Int))), (14, V.d (D.int IntKind.u64 (↑x : Int))), (15, V.d (D.int IntKind.i64 (↑j : Int))), (16, V.d (D.int IntKind.u64 (↑g : Int))), (141, V.d (du v)), (142, V.d (D.int IntKind.i64 (↑(m + 2) : Int))), (143, V.d (D.int IntKind.i64 (↑(i + 1) : Int))), (18, V.d (D.int IntKind.u64 (↑(p / 4294967296) : Int))), (19, V.d (D.int IntKind.u64 (↑f : Int)))] [(0, some (Blk.mk (setCells (u32s o) (0 + (↑(j + i) : Int).toNat * 1) [D.int IntKind.u32 (↑d : Int)]) true)), (1, some (Blk.mk (u32s q) true))] 44)) (fun K => by kernel_rfl) ?_
    have hstep := msub_step (c' := p / 4294967296) (by omega : j + i < o.length) gy gx (show g * X + c = p / 4294967296 * 4294967296 + p % 4294967296 by omega) hd3 hv
    refine ⟨by rw [w64] <;> omega, (i + 1, o.set (j + i) d, p / 4294967296, f), [(0, 0), (1, 1)], ⟨⟨by omega, by simp [hol], dg_set hod hd2, ?_, by omega, hf2, hstep⟩, by show m + 2 - (i + 1) < m + 2 - i; omega⟩, ?_⟩
    · rw [drop_set_lt (by omega), ← Nat.add_assoc, ← List.drop_drop, hdr, List.drop_drop]
    · rw [Int.toNat_natCast, Nat.zero_add, Nat.mul_one, setCells_u32]
      (constructor <;> simp [hl, envOk, memOk, conv, St.get, St.blk])
  · simp at e
    have hi2 : i = m + 2 := by omega
    subst hi2
    refine ⟨hol, hod, hdr, hc, hw, ?_⟩
    rwa [show v.take (m + 2) = v from List.take_of_length_le (by omega)] at hv
  · (constructor <;> simp [hl, envOk, memOk, conv, St.get, St.blk])
end Go.Abs

set_option linter.unusedVariables false
set_option linter.unusedSimpArgs false
namespace Go.Abs
open Go Go.Proofs
set_option maxRecDepth 100000

theorem back_loop {Cx : Ctx} (hP : Cx.P = Try.prog) (hnt : Cx.nt = 251) (hl : Cx.lids = []) {Q : Exit → St → Prop} {m k0 s : Nat} {v u q : List Nat} {t x j : Nat}
    (hud : Dg u) (hvd : Dg v) (hjk : j < k0) (hul : u.length = k0 + (m + 2)) (hvl : v.length = m + 2) (hmk : k0 + (m + 2) ≤ 2 ^ 40) :
    AWP Cx longBack (longSt m k0 s v u q t x j [(25, .d (.int .u32 (0 : Nat)))])
      (thenQ (fun s' => ∃ (z : List Nat × Nat) (ρ : List (Nat × Nat)), (z.1.length = u.length ∧ Dg z.1 ∧ z.1.drop (j + (m + 2)) = u.drop (j + (m + 2)) ∧ z.2 ≤ 1 ∧
        val (z.1.take (j + (m + 2))) + 4294967296 ^ (j + (m + 2)) * z.2 = val (u.take (j + (m + 2))) + 4294967296 ^ j * val v) ∧
        Weak Cx.lids ρ s' (longSt m k0 s v z.1 q t x j [(25, .d (.int .u32 z.2))])) Q) := by
  unfold longSt
  refine awp_sx prog_ok hP hnt [] [] [] [4, 6, 10, 11, 12, 13, 14, 15, 25, 210, 211, 212] (by kernel_rfl) (G := fun K => K (St.mk [(4, V.own 1 0 k0 1), (6, V.d (D.int IntKind.i64 (↑(m + 2) : Int))), (10, V.d (D.int IntKind.i64 (↑s : Int))), (11, V.d (du v)), (12, V.own 0 0 (k0 + (m + 2)) 1), (13, V.d (D.int IntKind.u64 (↑t : Int))), (14, V.d (D.int IntKind.u64 (↑x : Int))), (15, V.d (D.int IntKind.i64 (↑j : Int))), (25, V.d (D.int IntKind.u32 (↑0 : Int))), (210, V.d (du v)), (211, V.d (D.int IntKind.i64 (↑v.length : Int))), (212, V.d (D.int IntKind.i64 (0 : Int)))] [(0, some (Blk.mk (u32s u) true)), (1, some (Blk.mk (u32s q) true))] 5)) (fun K => by kernel_rfl) ?_
  refine awp_block ?_
  refine awp_loop (ι := Nat × List Nat × Nat) (fun ⟨i, o, c⟩ => ⟨[(4, .own 1 0 k0 1), (6, .d (.int .i64 (m + 2 : Nat))), (10, .d (.int .i64 s)), (11, .d (du v)), (12, .own 0 0 (k0 + (m + 2)) 1), (13, .d (.int .u64 t)), (14, .d (.int .u64 x)), (15, .d (.int .i64 j)), (25, .d (.int .u32 c)), (210, .d (du v)), (211, .d (.int .i64 (m + 2 : Nat))), (212, .d (.int .i64 i))], [(0, some ⟨u32s o, true⟩), (1, some ⟨u32s q, true⟩)], 2⟩)
    (fun ⟨i, o, c⟩ => i ≤ m + 2 ∧ o.length = u.length ∧ Dg o ∧ o.drop (j + i) = u.drop (j + i) ∧ c ≤ 1 ∧ val (o.take (j + i)) + 4294967296 ^ (j + i) * c = val (u.take (j + i)) + 4294967296 ^ j * val (v.take i)) (fun ⟨i, o, c⟩ => m + 2 - i) (0, u, 0) [(0, 0), (1, 1)] ?_ ?_ ?_
  · refine ⟨by omega, rfl, hud, rfl, by omega, ?_⟩
    simp [val]
  · rw [← hvl]
    (constructor <;> simp [hl, envOk, memOk, conv, St.get, St.blk])
  rintro ⟨i, o, c⟩ ⟨hi, hol, hod, hdr, hc, hv⟩
  refine awp_sx prog_ok hP hnt [] [] [] [4, 6, 10, 11, 12, 13, 14, 15, 25, 210, 211, 212, 213] (by kernel_rfl) (G := fun K => K (St.mk [(4, V.own 1 0 k0 1), (6, V.d (D.int IntKind.i64 (↑(m + 2) : Int))), (10, V.d (D.int IntKind.i64 (↑s : Int))), (11, V.d (du v)), (12, V.own 0 0 (k0 + (m + 2)) 1), (13, V.d (D.int IntKind.u64 (↑t : Int))), (14, V.d (D.int IntKind.u64 (↑x : Int))), (15, V.d (D.int IntKind.i64 (↑j : Int))), (25, V.d (D.int IntKind.u32 (↑c : Int))), (210, V.d (du v)), (211, V.d (D.int IntKind.i64 (↑(m + 2) : Int))), (212, V.d (D.int IntKind.i64 (↑i : Int))), (213, V.d (D.bool (decide ((↑i : Int) < (↑(m + 2) : Int)))))] [(0, some (Blk.mk (u32s o) true)), (1, some (Blk.mk (u32s q) true))] 3)) (fun K => by kernel_rfl) ?_
  refine awp_seq_k fun K1 hK1 => ?_
  refine awp_cond rfl (fun e => awp_skip (hK1 _ ?_)) (fun e => awp_exit ⟨(o, c), [(0, 0), (1, 1)], ?_, ?_⟩)
  · simp at e
    obtain ⟨X, gx⟩ := get_ex (l := v) (i := i) (by omega)
    obtain ⟨Y, gy⟩ := get_ex (l := u) (i := j + i) (by omega)
    have goy : o[j + i]? = some Y := by rw [get_drop_eq hdr (Nat.le_refl _)]; exact gy
    have hX := dg_get hvd gx
    have hY := dg_get hud gy
    have hji : IntKind.i64.wrap ((i : Int) + j) = (j + i : Nat) := by rw [w64] <;> omega
    refine awp_seq_k fun K2 hK2 => ?_
    refine awp_block ?_
    refine awp_sx prog_ok hP hnt [] [] [some [.int .u32 X]] [4, 6, 10, 11, 12, 13, 14, 15, 25, 26, 27, 210, 211, 212] (by kernel_rfl) (G := fun K => ((0 : Int) ≤ (↑i : Int) ∧ (↑i : Int) < (↑v.length : Int) ∧ ((↑i : Int).toNat + 1) * 1 ≤ (u32s v).length) ∧ (List.drop ((↑i : Int).toNat * 1) (u32s v))[0]? = some (D.int IntKind.u32 (↑X : Int)) ∧ K (St.mk [(4, V.own 1 0 k0 1), (6, V.d (D.int IntKind.i64 (↑(m + 2) : Int))), (10, V.d (D.int IntKind.i64 (↑s : Int))), (11, V.d (du v)), (12, V.own 0 0 (k0 + (m + 2)) 1), (13, V.d (D.int IntKind.u64 (↑t : Int))), (14, V.d (D.int IntKind.u64 (↑x : Int))), (15, V.d (D.int IntKind.i64 (↑j : Int))), (25, V.d (D.int IntKind.u32 (↑c : Int))), (210, V.d (du v)), (211, V.d (D.int IntKind.i64 (↑(m + 2) : Int))), (212, V.d (D.int IntKind.i64 (↑i : Int))), (26, V.d (D.int IntKind.i64 (↑i : Int))), (27, V.d (D.int IntKind.u32 (↑X : Int)))] [(0, some (Blk.mk (u32s o) true)), (1, some (Blk.mk (u32s q) true))] 8)) (fun K => by kernel_rfl) ?_
    refine ⟨⟨by omega, by omega, by simp; omega⟩, by rw [Int.toNat_natCast, Nat.mul_one, List.getElem?_drop, Nat.add_zero, u32s_get, gx]; rfl, ?_⟩
    have h32 := add32_fn Y X c hY hX (by omega)
    have hstep := addb_step (d := (Y + X + c) % 4294967296) (f := (Y + X + c) / 4294967296) (by omega : j + i < o.length) gy gx (by omega) hv
    refine awp_x prog_ok hP hnt [(221, .int .i64 (j + i : Nat)), (225, .int .i64 (j + i : Nat))] [.val (.tup [.d (.int .u32 ((Y + X + c) % 4294967296 : Nat)), .d (.int .u32 ((Y + X + c) / 4294967296 : Nat))])] [some [.int .u32 Y]] [4, 6, 10, 11, 12, 13, 14, 15, 25, 210, 211, 212] (by kernel_rfl) (G := fun K => IntKind.i64.wrap ((↑i : Int) + (↑j : Int)) = (↑(j + i) : Int) ∧ IntKind.i64.wrap ((↑i : Int) + (↑j : Int)) = (↑(j + i) : Int) ∧ ((0 : Int) ≤ (↑(j + i) : Int) ∧ (↑(j + i) : Int) < (↑(k0 + (m + 2)) : Int)) ∧ (u32s o)[0 + (↑(j + i) : Int).toNat * 1]? = some (D.int IntKind.u32 (↑Y : Int)) ∧ Fn Try.prog 228 [V.d (D.int IntKind.u32 (↑Y : Int)), V.d (D.int IntKind.u32 (↑X : Int)), V.d (D.int IntKind.u32 (↑c : Int))] [] (V.tup [V.d (D.int IntKind.u32 (↑((Y + X + c) % 4294967296) : Int)), V.d (D.int IntKind.u32 (↑((Y + X + c) / 4294967296) : Int))]) [] ∧ ((0 : Int) ≤ (↑(j + i) : Int) ∧ (↑(j + i) : Int) < (↑(k0 + (m + 2)) : Int)) ∧ 0 + (↑(j + i) : Int).toNat * 1 + [D.int IntKind.u32 (↑((Y + X + c) % 4294967296) : Int)].length ≤ (u32s o).length ∧ K (St.mk [(4, V.own 1 0 k0 1), (6, V.d (D.int IntKind.i64 (↑(m + 2) : Int))), (10, V.d (D.int IntKind.i64 (↑s : Int))), (11, V.d (du v)), (12, V.own 0 0 (k0 + (m + 2)) 1), (13, V.d (D.int IntKind.u64 (↑t : Int))), (14, V.d (D.int IntKind.u64 (↑x : Int))), (15, V.d (D.int IntKind.i64 (↑j : Int))), (25, V.d (D.int IntKind.u32 (↑((Y + X + c) / 4294967296) : Int))), (210, V.d (du v)), (211, V.d (D.int IntKind.i64 (↑(m + 2) : Int))), (212, V.d (D.int IntKind.i64 (↑i : Int)))] [(0, some (Blk.mk (setCells (u32s o) (0 + (↑(j + i) : Int).toNat * 1) [D.int IntKind.u32 (↑((Y + X + c) % 4294967296) : Int)]) true)), (1, some (Blk.mk (u32s q) true))] 27)) (fun K => by kernel_rfl) ?_
    refine ⟨hji, hji, ⟨by omega, by omega⟩, by rw [Int.toNat_natCast, Nat.zero_add, Nat.mul_one, u32s_get, goy]; rfl, h32, ⟨by omega, by omega⟩, by simp; omega, hK2 _ ?_⟩
    refine awp_x prog_ok hP hnt [(234, .int .i64 (i + 1 : Nat))] [] [] [4, 6, 10, 11, 12, 13, 14, 15, 25, 210, 211, 212] (by kernel_rfl) (G := fun K => IntKind.i64.wrap ((↑i : Int) + (1 : Int)) = (↑(i + 1) : Int) ∧ K (St.mk [(4, V.own 1 0 k0 1), (6, V.d (D.int IntKind.i64 (↑(m + 2) : Int))), (10, V.d (D.int IntKind.i64 (↑s : Int))), (11, V.d (du v)), (12, V.own 0 0 (k0 + (m + 2)) 1), (13, V.d (D.int IntKind.u64 (↑t : Int))), (14, V.d (D.int IntKind.u64 (↑x : Int))), (15, V.d (D.int IntKind.i64 (↑j : Int))), (25, V.d (D.int IntKind.u32 (↑((Y + X + c) / 4294967296) : Int))), (210, V.d (du v)), (211, V.d (D.int IntKind.i64 (↑(m + 2) : Int))), (212, V.d (D.int IntKind.i64 (↑(i + 1) : Int)))] [(0, some (Blk.mk (setCells (u32s o) (0 + (↑(j + i) : Int).toNat * 1) [D.int IntKind.u32 (↑((Y + X + c) % 4294967296) : Int)]) true)), (1, some (Blk.mk (u32s q) true))] 29)) (fun K => by kernel_rfl) ?_
    refine ⟨by rw [w64] <;> omega, (i + 1, o.set (j + i) ((Y + X + c) % 4294967296), (Y + X + c) / 4294967296), [(0, 0), (1, 1)], ⟨⟨by omega, by simp [hol], dg_set hod (by omega), ?_, by omega, hstep⟩, by show m + 2 - (i + 1) < m + 2 - i; omega⟩, ?_⟩
    · rw [drop_set_lt (by omega), ← Nat.add_assoc, ← List.drop_drop, hdr, List.drop_drop]
    · rw [Int.toNat_natCast, Nat.zero_add, Nat.mul_one, setCells_u32]
      (constructor <;> simp [hl, envOk, memOk, conv, St.get, St.blk])
  · simp at e
    have hi2 : i = m + 2 := by omega
    subst hi2
    refine ⟨hol, hod, hdr, hc, ?_⟩
    rwa [show v.take (m + 2) = v from List.take_of_length_le (by omega)] at hv
  · (constructor <;> simp [hl, envOk, memOk, conv, St.get, St.blk])
end Go.Abs
