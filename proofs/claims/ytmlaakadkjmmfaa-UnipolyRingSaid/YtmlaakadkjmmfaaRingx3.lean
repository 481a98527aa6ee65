import Derived.WalkKit
import Derived.Orders
import Derived.Below
import Derived.Laws.AppendOwn
import Derived.Calls
import Derived.OpenShut
import Derived.ChangeArms
import Derived.ChangeShapes
import Derived.WideShapes
import Derived.KernelRfl
import Derived.JoinedOf
import Derived.ProofKit
import Derived.ShutString
import Derived.ChangeOld
import Derived.SizedLaws
import Derived.Test.YtmlaakadkjmmfaaProg
import Derived.Test.YtmlaakadkjmmfaaRingx0
import Derived.Test.YtmlaakadkjmmfaaRingx1
import Derived.Test.YtmlaakadkjmmfaaRingx2
/- Texts that the proof of UnipolyRing leans on: what is told of the functions it reaches. -/
set_option linter.unusedVariables false
set_option linter.unusedSimpArgs false
namespace Go.Abs
open Go Go.Proofs
def part (F : Nat → Int) (i k : Nat) : Int := if k < i then F k else 0
theorem part_zero (F : Nat → Int) (n : Nat) : mz (part F 0) n = List.replicate n (riz 0) := by
  rw [mz_zero]; exact mz_ext fun k _ => by unfold part; rw [if_neg (by omega)]
theorem part_set {F : Nat → Int} {i n : Nat} : (mz (part F i) n).set i (riz (F i)) = mz (part F (i + 1)) n := by
  refine mz_set (by unfold part; rw [if_pos (by omega)]) fun k hk _ => ?_
  unfold part
  by_cases c : k < i
  · rw [if_pos c, if_pos (by omega)]
  · rw [if_neg c, if_neg (by omega)]
theorem part_all (F : Nat → Int) (n : Nat) : mz (part F n) n = mz F n := mz_ext fun k hk => by unfold part; rw [if_pos hk]
theorem getD_ok {K : Nat} {ps : List RI} (h : Pok K ps) (k : Nat) : RIok K (ps.getD k (false, [])) := by
  rw [List.getD_eq_getElem?_getD]
  cases e : ps[k]? with
  | none => exact ⟨fun d hd => by simp at hd, by simp⟩
  | some p => exact h p (List.mem_of_getElem? e)
theorem getD_get {ps : List RI} {k : Nat} (h : k < ps.length) : ps[k]? = some (ps.getD k (false, [])) := by
  rw [List.getD_eq_getElem?_getD]; simp [h]
theorem getD_none {ps : List RI} {k : Nat} (h : ps.length ≤ k) : ps.getD k (false, []) = (false, []) := by
  rw [List.getD_eq_getElem?_getD, List.getElem?_eq_none h]; rfl
end Go.Abs

set_option linter.unusedVariables false
set_option linter.unusedSimpArgs false
namespace Go.Abs
open Go Go.Proofs
set_option maxRecDepth 100000

theorem comb_fn (K fid : Nat) (op : Int → Int → Int) (hF : ∀ p q : RI, RIok K p → RIok K q → Fn Try.prog fid [.agg (ic p.1 p.2), .agg (ic q.1 q.2)] [] (.agg (iz (op (rval p) (rval q)))) [])
    (ps qs : List RI) (hn : ps.length ≤ 2 ^ 40) (hm : qs.length ≤ 2 ^ 40) (hp : Pok K ps) (hq : Pok K qs) :
    Fn Try.prog 163 [.d (rp ps), .d (rp qs), .fn fid []] [] (.d (rp (mz (fun k => op (co ps k) (co qs k)) (max ps.length qs.length)))) [] := by
  refine fn0 (nt := 50) (res := [.tmp 6]) Try.func163 rfl (by decide) rfl rfl rfl rfl ?_
  intro C hP hnt hl
  obtain ⟨N, hN⟩ : ∃ N, N = max ps.length qs.length := ⟨_, rfl⟩
  rw [← hN]
  obtain ⟨F, hFF⟩ : ∃ F : Nat → Int, F = fun k => op (co ps k) (co qs k) := ⟨_, rfl⟩
  rw [← hFF]
  refine awp_sx prog_ok hP hnt [] [] [] [0, 1, 2] (by kernel_rfl) (G := fun K => K (St.mk [(0, V.d (rp ps)), (1, V.d (rp qs)), (2, V.fn fid [])] [] 1)) (fun K => by kernel_rfl) ?_
  refine awp_sx prog_ok hP hnt [(16, .int .i64 N)] [] [] [0, 1, 2, 7] (by kernel_rfl) (G := fun K => (if (↑qs.length : Int) > (↑ps.length : Int) then (↑qs.length : Int) else (↑ps.length : Int)) = (↑N : Int) ∧ ((↑N : Int) = (↑N : Int) ∧ (0 : Int) ≤ (↑N : Int) ∧ (↑N : Int) * (↑32 : Int) ≤ (2 : Int) ^ 47) ∧ K (St.mk [(0, V.d (rp ps)), (1, V.d (rp qs)), (2, V.fn fid []), (7, V.own 6 0 (↑N : Int).toNat 2)] [(6, some (Blk.mk (zeros (↑N : Int).toNat (TI.mk (Kind.struct [(0, 1), (1, 1)]) 2 32 [D.bool false, D.lst 0 []]).zero) true))] 8)) (fun K => by kernel_rfl) ?_
  refine ⟨by split <;> omega, by omega, ?_⟩
  refine awp_sx prog_ok hP hnt [] [] [] [0, 1, 2, 7, 8] (by kernel_rfl) (G := fun K => K (St.mk [(0, V.d (rp ps)), (1, V.d (rp qs)), (2, V.fn fid []), (7, V.own 6 0 (↑N : Int).toNat 2), (8, V.ptr 8 0)] [(6, some (Blk.mk (zeros (↑N : Int).toNat (TI.mk (Kind.struct [(0, 1), (1, 1)]) 2 32 [D.bool false, D.lst 0 []]).zero) true)), (8, some (Blk.mk [D.bool false, D.lst 0 []] true))] 9)) (fun K => by kernel_rfl) ?_
  refine awp_cut (ι := Unit) (fun _ => ⟨[(7, .own 0 0 N 2)], [(0, some ⟨rc (mz F N), true⟩)], 1⟩) (fun _ => True) ?_ ?_
  · refine awp_sx prog_ok hP hnt [] [] [] [0, 1, 2, 7, 8, 19, 20] (by kernel_rfl) (G := fun K => K (St.mk [(0, V.d (rp ps)), (1, V.d (rp qs)), (2, V.fn fid []), (7, V.own 6 0 (↑N : Int).toNat 2), (8, V.ptr 8 0), (19, V.d (D.int IntKind.i64 (↑(↑N : Int).toNat : Int))), (20, V.d (D.int IntKind.i64 (0 : Int)))] [(6, some (Blk.mk (zeros (↑N : Int).toNat (TI.mk (Kind.struct [(0, 1), (1, 1)]) 2 32 [D.bool false, D.lst 0 []]).zero) true)), (8, some (Blk.mk [D.bool false, D.lst 0 []] true))] 12)) (fun K => by kernel_rfl) ?_
    refine awp_block ?_
    refine awp_loop (ι := Nat) (fun i => ⟨[(0, .d (rp ps)), (1, .d (rp qs)), (2, .fn fid []), (7, .own 0 0 N 2), (8, .ptr 1 0), (19, .d (.int .i64 N)), (20, .d (.int .i64 i))], [(0, some ⟨rc (mz (part F i) N), true⟩), (1, some ⟨[.bool false, .lst 0 []], true⟩)], 2⟩)
      (fun i => i ≤ N) (fun i => N - i) 0 [(0, 6), (1, 8)] (by simp) ?_ ?_
    · constructor <;> simp [hl, envOk, memOk, conv, St.get, St.blk, zeros_rc, part_zero]
    intro i hi
    refine awp_sx prog_ok hP hnt [] [] [] [0, 1, 2, 7, 8, 19, 20, 21] (by kernel_rfl) (G := fun K => K (St.mk [(0, V.d (rp ps)), (1, V.d (rp qs)), (2, V.fn fid []), (7, V.own 0 0 N 2), (8, V.ptr 1 0), (19, V.d (D.int IntKind.i64 (↑N : Int))), (20, V.d (D.int IntKind.i64 (↑i : Int))), (21, V.d (D.bool (decide ((↑i : Int) < (↑N : Int)))))] [(0, some (Blk.mk (rc (mz (part F i) N)) true)), (1, some (Blk.mk [D.bool false, D.lst 0 []] true))] 3)) (fun K => by kernel_rfl) ?_
    refine awp_seq_k fun K1 hK1 => ?_
    refine awp_cond rfl (fun h => awp_skip (hK1 _ ?_)) (fun h => awp_exit ⟨(), [(0, 0)], trivial, ?_⟩)
    · simp at h
      obtain ⟨p, hp1⟩ : ∃ p, p = ps.getD i (false, []) := ⟨_, rfl⟩
      obtain ⟨q, hq1⟩ : ∃ q, q = qs.getD i (false, []) := ⟨_, rfl⟩
      have hpo : RIok K p := hp1 ▸ getD_ok hp i
      have hqo : RIok K q := hq1 ▸ getD_ok hq i
      have hFi : op (rval p) (rval q) = F i := by rw [hFF, hp1, hq1]; rfl
      refine awp_seq_k fun K2 hK2 => ?_
      refine awp_block ?_
      refine awp_sx prog_ok hP hnt [] [] [] [0, 1, 2, 7, 8, 9, 19, 20] (by kernel_rfl) (G := fun K => K (St.mk [(0, V.d (rp ps)), (1, V.d (rp qs)), (2, V.fn fid []), (7, V.own 0 0 N 2), (8, V.ptr 1 0), (19, V.d (D.int IntKind.i64 (↑N : Int))), (20, V.d (D.int IntKind.i64 (↑i : Int))), (9, V.d (D.int IntKind.i64 (↑i : Int)))] [(0, some (Blk.mk (rc (mz (part F i) N)) true)), (1, some (Blk.mk [D.bool false, D.lst 0 []] true))] 5)) (fun K => by kernel_rfl) ?_
      refine awp_sx prog_ok hP hnt [] [] [] [0, 1, 2, 7, 8, 9, 10, 11, 19, 20] (by kernel_rfl) (G := fun K => 2 ≤ (TI.mk (Kind.struct [(0, 1), (1, 1)]) 2 32 [D.bool false, D.lst 0 []]).zero.length ∧ 2 ≤ (TI.mk (Kind.struct [(0, 1), (1, 1)]) 2 32 [D.bool false, D.lst 0 []]).zero.length ∧ K (St.mk [(0, V.d (rp ps)), (1, V.d (rp qs)), (2, V.fn fid []), (7, V.own 0 0 N 2), (8, V.ptr 1 0), (19, V.d (D.int IntKind.i64 (↑N : Int))), (20, V.d (D.int IntKind.i64 (↑i : Int))), (9, V.d (D.int IntKind.i64 (↑i : Int))), (10, V.ptr 7 0), (11, V.ptr 8 0)] [(0, some (Blk.mk (rc (mz (part F i) N)) true)), (1, some (Blk.mk [D.bool false, D.lst 0 []] true)), (7, some (Blk.mk [D.bool false, D.lst 0 []] true)), (8, some (Blk.mk [D.bool false, D.lst 0 []] true))] 11)) (fun K => by kernel_rfl) ?_
      refine ⟨by simp, by simp, ?_⟩
      refine awp_cut (ι := Unit) (fun _ => ⟨[(0, .d (rp ps)), (1, .d (rp qs)), (2, .fn fid []), (7, .own 0 0 N 2), (8, .ptr 1 0), (9, .d (.int .i64 i)), (10, .ptr 2 0), (11, .ptr 3 0), (19, .d (.int .i64 N)), (20, .d (.int .i64 i))], [(0, some ⟨rc (mz (part F i) N), true⟩), (1, some ⟨[.bool false, .lst 0 []], true⟩), (2, some ⟨[.bool p.1, du p.2], true⟩), (3, some ⟨[.bool false, .lst 0 []], true⟩)], 4⟩) (fun _ => True) ?_ ?_
      · refine awp_sx prog_ok hP hnt [] [] [] [0, 1, 2, 7, 8, 9, 10, 11, 19, 20, 28] (by kernel_rfl) (G := fun K => K (St.mk [(0, V.d (rp ps)), (1, V.d (rp qs)), (2, V.fn fid []), (7, V.own 0 0 N 2), (8, V.ptr 1 0), (19, V.d (D.int IntKind.i64 (↑N : Int))), (20, V.d (D.int IntKind.i64 (↑i : Int))), (9, V.d (D.int IntKind.i64 (↑i : Int))), (10, V.ptr 7 0), (11, V.ptr 8 0), (28, V.d (D.bool (decide ((↑i : Int) < (↑ps.length : Int)))))] [(0, some (Blk.mk (rc (mz (part F i) N)) true)), (1, some (Blk.mk [D.bool false, D.lst 0 []] true)), (7, some (Blk.mk [D.bool false, D.lst 0 []] true)), (8, some (Blk.mk [D.bool false, D.lst 0 []] true))] 15)) (fun K => by kernel_rfl) ?_
        refine awp_cond rfl (fun h => ?_) (fun h => awp_skip ⟨(), [(0, 0), (1, 1), (2, 7), (3, 8)], trivial, ?_⟩)
        · simp at h
          have hg := getD_get h
          rw [← hp1] at hg
          refine awp_x prog_ok hP hnt [] [] [some [.bool p.1, du p.2]] [0, 1, 2, 7, 8, 9, 10, 11, 19, 20] (by kernel_rfl) (G := fun K => ((0 : Int) ≤ (↑i : Int) ∧ (↑i : Int) < (↑ps.length : Int) ∧ ((↑i : Int).toNat + 1) * 2 ≤ (rc ps).length) ∧ ((List.drop ((↑i : Int).toNat * 2) (rc ps))[0]? = some (D.bool p.fst) ∧ (List.drop ((↑i : Int).toNat * 2) (rc ps))[1]? = some (du p.snd)) ∧ 0 + [D.bool p.fst, du p.snd].length ≤ [D.bool false, D.lst 0 []].length ∧ K (St.mk [(0, V.d (rp ps)), (1, V.d (rp qs)), (2, V.fn fid []), (7, V.own 0 0 N 2), (8, V.ptr 1 0), (19, V.d (D.int IntKind.i64 (↑N : Int))), (20, V.d (D.int IntKind.i64 (↑i : Int))), (9, V.d (D.int IntKind.i64 (↑i : Int))), (10, V.ptr 7 0), (11, V.ptr 8 0)] [(0, some (Blk.mk (rc (mz (part F i) N)) true)), (1, some (Blk.mk [D.bool false, D.lst 0 []] true)), (7, some (Blk.mk [D.bool p.fst, du p.snd] true)), (8, some (Blk.mk [D.bool false, D.lst 0 []] true))] 20)) (fun K => by kernel_rfl) ?_
          refine ⟨⟨by omega, by omega, by simp; omega⟩, by rw [Int.toNat_natCast, rc_at hg]; exact ⟨rfl, rfl⟩, by simp, (), [(0, 0), (1, 1), (2, 7), (3, 8)], trivial, ?_⟩
          constructor <;> simp [hl, envOk, memOk, conv, St.get, St.blk]
        · simp at h
          rw [getD_none h] at hp1
          subst hp1
          constructor <;> simp [hl, envOk, memOk, conv, St.get, St.blk, du, u32s]
      intro _ _
      refine awp_cut (ι := Unit) (fun _ => ⟨[(0, .d (rp ps)), (1, .d (rp qs)), (2, .fn fid []), (7, .own 0 0 N 2), (8, .ptr 1 0), (9, .d (.int .i64 i)), (10, .ptr 2 0), (11, .ptr 3 0), (19, .d (.int .i64 N)), (20, .d (.int .i64 i))], [(0, some ⟨rc (mz (part F i) N), true⟩), (1, some ⟨[.bool false, .lst 0 []], true⟩), (2, some ⟨[.bool p.1, du p.2], true⟩), (3, some ⟨[.bool q.1, du q.2], true⟩)], 4⟩) (fun _ => True) ?_ ?_
      · refine awp_sx prog_ok hP hnt [] [] [] [0, 1, 2, 7, 8, 9, 10, 11, 19, 20, 36] (by kernel_rfl) (G := fun K => K (St.mk [(0, V.d (rp ps)), (1, V.d (rp qs)), (2, V.fn fid []), (7, V.own 0 0 N 2), (8, V.ptr 1 0), (9, V.d (D.int IntKind.i64 (↑i : Int))), (10, V.ptr 2 0), (11, V.ptr 3 0), (19, V.d (D.int IntKind.i64 (↑N : Int))), (20, V.d (D.int IntKind.i64 (↑i : Int))), (36, V.d (D.bool (decide ((↑i : Int) < (↑qs.length : Int)))))] [(0, some (Blk.mk (rc (mz (part F i) N)) true)), (1, some (Blk.mk [D.bool false, D.lst 0 []] true)), (2, some (Blk.mk [D.bool p.fst, du p.snd] true)), (3, some (Blk.mk [D.bool false, D.lst 0 []] true))] 8)) (fun K => by kernel_rfl) ?_
        refine awp_cond rfl (fun h => ?_) (fun h => awp_skip ⟨(), [(0, 0), (1, 1), (2, 2), (3, 3)], trivial, ?_⟩)
        · simp at h
          have hg := getD_get h
          rw [← hq1] at hg
          refine awp_x prog_ok hP hnt [] [] [some [.bool q.1, du q.2]] [0, 1, 2, 7, 8, 9, 10, 11, 19, 20] (by kernel_rfl) (G := fun K => ((0 : Int) ≤ (↑i : Int) ∧ (↑i : Int) < (↑qs.length : Int) ∧ ((↑i : Int).toNat + 1) * 2 ≤ (rc qs).length) ∧ ((List.drop ((↑i : Int).toNat * 2) (rc qs))[0]? = some (D.bool q.fst) ∧ (List.drop ((↑i : Int).toNat * 2) (rc qs))[1]? = some (du q.snd)) ∧ 0 + [D.bool q.fst, du q.snd].length ≤ [D.bool false, D.lst 0 []].length ∧ K (St.mk [(0, V.d (rp ps)), (1, V.d (rp qs)), (2, V.fn fid []), (7, V.own 0 0 N 2), (8, V.ptr 1 0), (9, V.d (D.int IntKind.i64 (↑i : Int))), (10, V.ptr 2 0), (11, V.ptr 3 0), (19, V.d (D.int IntKind.i64 (↑N : Int))), (20, V.d (D.int IntKind.i64 (↑i : Int)))] [(0, some (Blk.mk (rc (mz (part F i) N)) true)), (1, some (Blk.mk [D.bool false, D.lst 0 []] true)), (2, some (Blk.mk [D.bool p.fst, du p.snd] true)), (3, some (Blk.mk [D.bool q.fst, du q.snd] true))] 13)) (fun K => by kernel_rfl) ?_
          refine ⟨⟨by omega, by omega, by simp; omega⟩, by rw [Int.toNat_natCast, rc_at hg]; exact ⟨rfl, rfl⟩, by simp, (), [(0, 0), (1, 1), (2, 2), (3, 3)], trivial, ?_⟩
          constructor <;> simp [hl, envOk, memOk, conv, St.get, St.blk]
        · simp at h
          rw [getD_none h] at hq1
          subst hq1
          constructor <;> simp [hl, envOk, memOk, conv, St.get, St.blk, du, u32s]
      intro _ _
      have hcall := hF p q hpo hqo
      rw [hFi] at hcall
      refine awp_x prog_ok hP hnt [] [.val (.agg (iz (F i)))] [] [0, 1, 2, 7, 8, 19, 20] (by kernel_rfl) (G := fun K => Fn Try.prog fid [V.agg [D.bool p.fst, du p.snd], V.agg [D.bool q.fst, du q.snd]] [] (V.agg [D.bool (decide (F i < (0 : Int))), du (dig (F i).natAbs)]) [] ∧ ((0 : Int) ≤ (↑i : Int) ∧ (↑i : Int) < (↑N : Int)) ∧ 0 + (↑i : Int).toNat * 2 + (iz (F i)).length ≤ (rc (mz (part F i) N)).length ∧ K (St.mk [(0, V.d (rp ps)), (1, V.d (rp qs)), (2, V.fn fid []), (7, V.own 0 0 N 2), (8, V.ptr 1 0), (19, V.d (D.int IntKind.i64 (↑N : Int))), (20, V.d (D.int IntKind.i64 (↑i : Int)))] [(0, some (Blk.mk (setCells (rc (mz (part F i) N)) (0 + (↑i : Int).toNat * 2) (iz (F i))) true)), (1, some (Blk.mk [D.bool false, D.lst 0 []] true)), (2, some (Blk.mk [D.bool p.fst, du p.snd] true)), (3, some (Blk.mk [D.bool q.fst, du q.snd] true))] 12)) (fun K => by kernel_rfl) ?_
      have hsc := setCells_rc (mz (part F i) N) i (riz (F i))
      rw [part_set, ic_riz] at hsc
      refine ⟨hcall, ⟨by omega, by omega⟩, ?_, hK2 _ ?_⟩
      · rw [rc_len, mz_len, Int.toNat_natCast, Nat.zero_add]; show i * 2 + 2 ≤ N * 2; omega
      refine awp_x prog_ok hP hnt [(48, .int .i64 (i + 1 : Nat))] [] [] [0, 1, 2, 7, 8, 19, 20] (by kernel_rfl) (G := fun K => IntKind.i64.wrap ((↑i : Int) + (1 : Int)) = (↑(i + 1) : Int) ∧ K (St.mk [(0, V.d (rp ps)), (1, V.d (rp qs)), (2, V.fn fid []), (7, V.own 0 0 N 2), (8, V.ptr 1 0), (19, V.d (D.int IntKind.i64 (↑N : Int))), (20, V.d (D.int IntKind.i64 (↑(i + 1) : Int)))] [(0, some (Blk.mk (setCells (rc (mz (part F i) N)) (0 + (↑i : Int).toNat * 2) (iz (F i))) true)), (1, some (Blk.mk [D.bool false, D.lst 0 []] true)), (2, some (Blk.mk [D.bool p.fst, du p.snd] true)), (3, some (Blk.mk [D.bool q.fst, du q.snd] true))] 14)) (fun K => by kernel_rfl) ?_
      refine ⟨by rw [w64] <;> omega, i + 1, [(0, 0), (1, 1)], ⟨by omega, by omega⟩, ?_⟩
      rw [Int.toNat_natCast, Nat.zero_add, hsc]
      constructor <;> simp [hl, envOk, memOk, conv, St.get, St.blk]
    · simp at h
      have : i = N := by omega
      subst this
      constructor <;> simp [hl, envOk, memOk, conv, St.get, St.blk, part_all]
  intro _ _
  refine awp_sx prog_ok hP hnt [] [] [] [6] (by kernel_rfl) (G := fun K => K (St.mk [(6, V.own 0 0 N 2)] [(0, some (Blk.mk (rc (mz F N)) true))] 3)) (fun K => by kernel_rfl) ?_
  refine awp_ret ⟨.inl rfl, retOwn rfl rfl ?_⟩
  exact own_rp (by simp)
end Go.Abs

set_option linter.unusedVariables false
set_option linter.unusedSimpArgs false
namespace Go.Abs
open Go Go.Proofs
set_option maxRecDepth 100000

theorem mz_ok {K : Nat} {F : Nat → Int} {n : Nat} (h : ∀ k, (F k).natAbs < 4294967296 ^ K) : Pok K (mz F n) := fun p hp => by
  simp only [mz, List.mem_map] at hp
  obtain ⟨k, _, rfl⟩ := hp
  exact riz_ok (h k)
theorem can_ok {K : Nat} {F : Nat → Int} {n : Nat} (h : ∀ k, (F k).natAbs < 4294967296 ^ K) : Pok K (can F n) := mz_ok h
theorem can_len (F : Nat → Int) (n : Nat) : (can F n).length ≤ n := by unfold can; rw [mz_len]; exact zdeg_le F n
theorem add_small {K : Nat} {x y : Int} (hx : x.natAbs < 4294967296 ^ K) (hy : y.natAbs < 4294967296 ^ K) : (x + y).natAbs < 4294967296 ^ (K + 1) ∧ (x - y).natAbs < 4294967296 ^ (K + 1) := by
  rw [Nat.pow_succ]
  generalize 4294967296 ^ K = X at *
  omega

theorem uadd_fn (K : Nat) (ps qs : List RI) (hK : K + 1 ≤ 2 ^ 40) (hn : ps.length ≤ 2 ^ 40) (hm : qs.length ≤ 2 ^ 40) (hp : Pok K ps) (hq : Pok K qs) :
    Fn Try.prog 48 [.d (rp ps), .d (rp qs)] [] (.d (rp (can (fun k => co ps k + co qs k) (max ps.length qs.length)))) [] := by
  refine fn0 (nt := 9) (res := [.tmp 4]) Try.func48 rfl (by decide) rfl rfl rfl rfl ?_
  intro C hP hnt hl
  obtain ⟨N, hN⟩ : ∃ N, N = max ps.length qs.length := ⟨_, rfl⟩
  have h1 := comb_fn K 96 (fun x y => x + y) (fun p q hp hq => iadd_fn p.1 q.1 p.2 q.2 (Nat.le_trans hp.2 (by omega)) (Nat.le_trans hq.2 (by omega)) hp.1 hq.1) ps qs hn hm hp hq
  rw [← hN] at h1 ⊢
  have h2 := utrim_fn (mz (fun k => co ps k + co qs k) N) (by simp; omega) (pok_mono hK (mz_ok fun k => (add_small (co_abs hp k) (co_abs hq k)).1))
  rw [rtrim_mz] at h2
  refine awp_sx prog_ok hP hnt [] [] [] [0, 1] (by kernel_rfl) (G := fun K => K (St.mk [(0, V.d (rp ps)), (1, V.d (rp qs))] [] 1)) (fun K => by kernel_rfl) ?_
  refine awp_sx prog_ok hP hnt [] [.val (.d (rp (mz (fun k => co ps k + co qs k) N))), .val (.d (rp (can (fun k => co ps k + co qs k) N)))] [] [4] (by kernel_rfl) (G := fun K => Fn Try.prog 163 [V.d (rp ps), V.d (rp qs), V.fn 96 []] [] (V.d (rp (mz (fun k => co ps k + co qs k) N))) [] ∧ Fn Try.prog 161 [V.d (rp (mz (fun k => co ps k + co qs k) N))] [] (V.d (rp (can (fun k => co ps k + co qs k) N))) [] ∧ K (St.mk [(4, V.d (rp (can (fun k => co ps k + co qs k) N)))] [] 6)) (fun K => by kernel_rfl) ?_
  refine ⟨h1, h2, awp_ret ⟨.inl rfl, retD rfl⟩⟩

theorem usub_fn (K : Nat) (ps qs : List RI) (hK : K + 1 ≤ 2 ^ 40) (hn : ps.length ≤ 2 ^ 40) (hm : qs.length ≤ 2 ^ 40) (hp : Pok K ps) (hq : Pok K qs) :
    Fn Try.prog 50 [.d (rp ps), .d (rp qs)] [] (.d (rp (can (fun k => co ps k - co qs k) (max ps.length qs.length)))) [] := by
  refine fn0 (nt := 9) (res := [.tmp 4]) Try.func50 rfl (by decide) rfl rfl rfl rfl ?_
  intro C hP hnt hl
  obtain ⟨N, hN⟩ : ∃ N, N = max ps.length qs.length := ⟨_, rfl⟩
  have h1 := comb_fn K 164 (fun x y => x - y) (fun p q hp hq => isub_fn p.1 q.1 p.2 q.2 (Nat.le_trans hp.2 (by omega)) (Nat.le_trans hq.2 (by omega)) hp.1 hq.1) ps qs hn hm hp hq
  rw [← hN] at h1 ⊢
  have h2 := utrim_fn (mz (fun k => co ps k - co qs k) N) (by simp; omega) (pok_mono hK (mz_ok fun k => (add_small (co_abs hp k) (co_abs hq k)).2))
  rw [rtrim_mz] at h2
  refine awp_sx prog_ok hP hnt [] [] [] [0, 1] (by kernel_rfl) (G := fun K => K (St.mk [(0, V.d (rp ps)), (1, V.d (rp qs))] [] 1)) (fun K => by kernel_rfl) ?_
  refine awp_sx prog_ok hP hnt [] [.val (.d (rp (mz (fun k => co ps k - co qs k) N))), .val (.d (rp (can (fun k => co ps k - co qs k) N)))] [] [4] (by kernel_rfl) (G := fun K => Fn Try.prog 163 [V.d (rp ps), V.d (rp qs), V.fn 164 []] [] (V.d (rp (mz (fun k => co ps k - co qs k) N))) [] ∧ Fn Try.prog 161 [V.d (rp (mz (fun k => co ps k - co qs k) N))] [] (V.d (rp (can (fun k => co ps k - co qs k) N))) [] ∧ K (St.mk [(4, V.d (rp (can (fun k => co ps k - co qs k) N)))] [] 6)) (fun K => by kernel_rfl) ?_
  refine ⟨h1, h2, awp_ret ⟨.inl rfl, retD rfl⟩⟩
end Go.Abs

set_option linter.unusedVariables false
set_option linter.unusedSimpArgs false
namespace Go.Abs
open Go Go.Proofs
set_option maxRecDepth 100000

def i64s (l : List Int) : List D := l.map fun d => D.int .i64 d
@[simp] theorem i64s_len (l : List Int) : (i64s l).length = l.length := by simp [i64s]
@[simp] theorem i64s_get (l : List Int) (i : Nat) : (i64s l)[i]? = (l[i]?).map fun d => D.int .i64 d := by simp [i64s]
abbrev In64 (l : List Int) : Prop := ∀ d ∈ l, -9223372036854775808 ≤ d ∧ d ≤ 9223372036854775807
theorem riz_i64 {z : Int} (h : -9223372036854775808 ≤ z ∧ z ≤ 9223372036854775807) : RIok 2 (riz z) := riz_ok (by omega)

theorem uof_fn (l : List Int) (hn : l.length ≤ 2 ^ 40) (hl64 : In64 l) : Fn Try.prog 51 [.d (.lst l.length (i64s l))] [] (.d (rp (can (fun k => l.getD k 0) l.length))) [] := by
  refine fn0 (nt := 24) (res := [.tmp 2]) Try.func51 rfl (by decide) rfl rfl rfl rfl ?_
  intro C hP hnt hl
  obtain ⟨F, hF⟩ : ∃ F : Nat → Int, F = fun k => l.getD k 0 := ⟨_, rfl⟩
  rw [← hF]
  refine awp_sx prog_ok hP hnt [] [] [] [0] (by kernel_rfl) (G := fun K => K (St.mk [(0, V.d (D.lst l.length (i64s l)))] [] 1)) (fun K => by kernel_rfl) ?_
  refine awp_sx prog_ok hP hnt [] [] [] [0, 3] (by kernel_rfl) (G := fun K => ((↑l.length : Int) = (↑l.length : Int) ∧ (0 : Int) ≤ (↑l.length : Int) ∧ (↑l.length : Int) * (↑32 : Int) ≤ (2 : Int) ^ 47) ∧ K (St.mk [(0, V.d (D.lst l.length (i64s l))), (3, V.own 3 0 (↑l.length : Int).toNat 2)] [(3, some (Blk.mk (zeros (↑l.length : Int).toNat (TI.mk (Kind.struct [(0, 1), (1, 1)]) 2 32 [D.bool false, D.lst 0 []]).zero) true))] 5)) (fun K => by kernel_rfl) ?_
  refine ⟨by omega, ?_⟩
  refine awp_cut (ι := Unit) (fun _ => ⟨[(3, .own 0 0 l.length 2)], [(0, some ⟨rc (mz F l.length), true⟩)], 1⟩) (fun _ => True) ?_ ?_
  · refine awp_sx prog_ok hP hnt [] [] [] [3, 9, 10, 11] (by kernel_rfl) (G := fun K => K (St.mk [(3, V.own 3 0 (↑l.length : Int).toNat 2), (9, V.d (D.lst l.length (i64s l))), (10, V.d (D.int IntKind.i64 (↑l.length : Int))), (11, V.d (D.int IntKind.i64 (0 : Int)))] [(3, some (Blk.mk (zeros (↑l.length : Int).toNat (TI.mk (Kind.struct [(0, 1), (1, 1)]) 2 32 [D.bool false, D.lst 0 []]).zero) true))] 8)) (fun K => by kernel_rfl) ?_
    refine awp_block ?_
    refine awp_loop (ι := Nat) (fun i => ⟨[(3, .own 0 0 l.length 2), (9, .d (.lst l.length (i64s l))), (10, .d (.int .i64 l.length)), (11, .d (.int .i64 i))], [(0, some ⟨rc (mz (part F i) l.length), true⟩)], 1⟩)
      (fun i => i ≤ l.length) (fun i => l.length - i) 0 [(0, 3)] (by simp) ?_ ?_
    · constructor <;> simp [hl, envOk, memOk, conv, St.get, St.blk, zeros_rc, part_zero]
    intro i hi
    refine awp_sx prog_ok hP hnt [] [] [] [3, 9, 10, 11, 12] (by kernel_rfl) (G := fun K => K (St.mk [(3, V.own 0 0 l.length 2), (9, V.d (D.lst l.length (i64s l))), (10, V.d (D.int IntKind.i64 (↑l.length : Int))), (11, V.d (D.int IntKind.i64 (↑i : Int))), (12, V.d (D.bool (decide ((↑i : Int) < (↑l.length : Int)))))] [(0, some (Blk.mk (rc (mz (part F i) l.length)) true))] 2)) (fun K => by kernel_rfl) ?_
    refine awp_seq_k fun K1 hK1 => ?_
    refine awp_cond rfl (fun h => awp_skip (hK1 _ ?_)) (fun h => awp_exit ⟨(), [(0, 0)], trivial, ?_⟩)
    · simp at h
      obtain ⟨z, hz⟩ := get_ex (l := l) (i := i) (by omega)
      have hzF : F i = z := by rw [hF]; simp only; rw [List.getD_eq_getElem?_getD, hz]; rfl
      have hz64 := hl64 z (List.mem_of_getElem? hz)
      refine awp_seq_k fun K2 hK2 => ?_
      refine awp_block ?_
      refine awp_sx prog_ok hP hnt [] [] [some [.int .i64 z]] [3, 4, 5, 9, 10, 11] (by kernel_rfl) (G := fun K => ((0 : Int) ≤ (↑i : Int) ∧ (↑i : Int) < (↑l.length : Int) ∧ ((↑i : Int).toNat + 1) * 1 ≤ (i64s l).length) ∧ (List.drop ((↑i : Int).toNat * 1) (i64s l))[0]? = some (D.int IntKind.i64 z) ∧ K (St.mk [(3, V.own 0 0 l.length 2), (9, V.d (D.lst l.length (i64s l))), (10, V.d (D.int IntKind.i64 (↑l.length : Int))), (11, V.d (D.int IntKind.i64 (↑i : Int))), (4, V.d (D.int IntKind.i64 (↑i : Int))), (5, V.d (D.int IntKind.i64 z))] [(0, some (Blk.mk (rc (mz (part F i) l.length)) true))] 7)) (fun K => by kernel_rfl) ?_
      refine ⟨⟨by omega, by omega, by simp; omega⟩, by simp [hz], ?_⟩
      refine awp_x prog_ok hP hnt [] [.val (.agg (iz z))] [] [3, 9, 10, 11] (by kernel_rfl) (G := fun K => Fn Try.prog 74 [V.d (D.int IntKind.i64 z)] [] (V.agg [D.bool (decide (z < (0 : Int))), du (dig z.natAbs)]) [] ∧ ((0 : Int) ≤ (↑i : Int) ∧ (↑i : Int) < (↑l.length : Int)) ∧ 0 + (↑i : Int).toNat * 2 + (iz z).length ≤ (rc (mz (part F i) l.length)).length ∧ K (St.mk [(3, V.own 0 0 l.length 2), (9, V.d (D.lst l.length (i64s l))), (10, V.d (D.int IntKind.i64 (↑l.length : Int))), (11, V.d (D.int IntKind.i64 (↑i : Int)))] [(0, some (Blk.mk (setCells (rc (mz (part F i) l.length)) (0 + (↑i : Int).toNat * 2) (iz z)) true))] 13)) (fun K => by kernel_rfl) ?_
      have hsc := setCells_rc (mz (part F i) l.length) i (riz (F i))
      rw [part_set, ic_riz, hzF] at hsc
      refine ⟨iOf_fn z hz64.1 hz64.2, ⟨by omega, by omega⟩, ?_, hK2 _ ?_⟩
      · rw [rc_len, mz_len, Int.toNat_natCast, Nat.zero_add]; show i * 2 + 2 ≤ l.length * 2; omega
      refine awp_x prog_ok hP hnt [(21, .int .i64 (i + 1 : Nat))] [] [] [3, 9, 10, 11] (by kernel_rfl) (G := fun K => IntKind.i64.wrap ((↑i : Int) + (1 : Int)) = (↑(i + 1) : Int) ∧ K (St.mk [(3, V.own 0 0 l.length 2), (9, V.d (D.lst l.length (i64s l))), (10, V.d (D.int IntKind.i64 (↑l.length : Int))), (11, V.d (D.int IntKind.i64 (↑(i + 1) : Int)))] [(0, some (Blk.mk (setCells (rc (mz (part F i) l.length)) (0 + (↑i : Int).toNat * 2) (iz z)) true))] 15)) (fun K => by kernel_rfl) ?_
      refine ⟨by rw [w64] <;> omega, i + 1, [(0, 0)], ⟨by omega, by omega⟩, ?_⟩
      rw [Int.toNat_natCast, Nat.zero_add, hsc]
      constructor <;> simp [hl, envOk, memOk, conv, St.get, St.blk]
    · simp at h
      have : i = l.length := by omega
      subst this
      constructor <;> simp [hl, envOk, memOk, conv, St.get, St.blk, part_all]
  intro _ _
  have hpok : Pok 2 (mz F l.length) := fun p hp => by
    simp only [mz, List.mem_map] at hp
    obtain ⟨k, hk, rfl⟩ := hp
    refine riz_i64 ?_
    obtain ⟨z, hz⟩ := get_ex (l := l) (i := k) (by simpa using hk)
    rw [hF]; simp only; rw [List.getD_eq_getElem?_getD, hz]
    exact hl64 z (List.mem_of_getElem? hz)
  have ht := utrim_fn (mz F l.length) (by simp; omega) (pok_mono (by omega) hpok)
  rw [rtrim_mz] at ht
  refine awp_sx prog_ok hP hnt [] [.val (.d (rp (can F l.length)))] [] [2] (by kernel_rfl) (G := fun K => Fn Try.prog 161 [V.d (D.lst l.length (List.take (l.length * 2) (List.drop 0 (rc (mz F l.length)))))] [] (V.d (rp (can F l.length))) [] ∧ K (St.mk [(2, V.d (rp (can F l.length)))] [(0, some (Blk.mk (rc (mz F l.length)) false))] 4)) (fun K => by kernel_rfl) ?_
  refine ⟨?_, awp_ret ⟨.inl rfl, retD rfl⟩⟩
  rw [own_rp (by simp)]
  exact ht
end Go.Abs

set_option linter.unusedVariables false
set_option linter.unusedSimpArgs false
namespace Go.Abs
open Go Go.Proofs
set_option maxRecDepth 100000

def few (a b : Nat) (ps : List RI) : Bool := decide (ps.length ≤ a ∧ ∀ p ∈ ps, p.2.length ≤ b)

theorem few_fn (a b : Nat) (ps : List RI) (ha : a ≤ 2 ^ 40) (hb : b ≤ 2 ^ 40) : Fn Try.prog 39 [.d (.int .i64 a), .d (.int .i64 b), .d (rp ps)] [] (.d (.bool (few a b ps))) [] := by
  refine fn0 (nt := 26) (res := [.tmp 6]) Try.func39 rfl (by decide) rfl rfl rfl rfl ?_
  intro C hP hnt hl
  refine awp_sx prog_ok hP hnt [] [] [] [0, 1, 2] (by kernel_rfl) (G := fun K => K (St.mk [(0, V.d (D.int IntKind.i64 (↑a : Int))), (1, V.d (D.int IntKind.i64 (↑b : Int))), (2, V.d (rp ps))] [] 1)) (fun K => by kernel_rfl) ?_
  refine awp_seq_k fun K hK => ?_
  refine awp_sx prog_ok hP hnt [] [] [] [1, 2, 11] (by kernel_rfl) (G := fun K => K (St.mk [(1, V.d (D.int IntKind.i64 (↑b : Int))), (2, V.d (rp ps)), (11, V.d (D.bool (decide ((↑ps.length : Int) > (↑a : Int)))))] [] 5)) (fun K => by kernel_rfl) ?_
  refine awp_cond rfl (fun h => ?_) (fun h => awp_skip (hK _ ?_))
  · simp at h
    refine awp_sx prog_ok hP hnt [] [] [] [6] (by kernel_rfl) (G := fun K => K (St.mk [(6, V.d (D.bool false))] [] 6)) (fun K => by kernel_rfl) ?_
    refine awp_ret ⟨.inl rfl, retD ?_⟩
    rw [few, decide_eq_false (by omega)]; rfl
  simp at h
  refine awp_cut (ι := Unit) (fun _ => ⟨[], [], 0⟩) (fun _ => few a b ps = true) ?_ ?_
  · refine awp_sx prog_ok hP hnt [] [] [] [1, 2, 7] (by kernel_rfl) (G := fun K => K (St.mk [(1, V.d (D.int IntKind.i64 (↑b : Int))), (2, V.d (rp ps)), (7, V.d (D.int IntKind.i64 (0 : Int)))] [] 6)) (fun K => by kernel_rfl) ?_
    refine awp_block ?_
    refine awp_loop (ι := Nat) (fun i => ⟨[(1, .d (.int .i64 b)), (2, .d (rp ps)), (7, .d (.int .i64 i))], [], 0⟩)
      (fun i => i ≤ ps.length ∧ ∀ k p, k < i → ps[k]? = some p → p.2.length ≤ b) (fun i => ps.length - i) 0 [] (by simp) ?_ ?_
    · constructor <;> simp [hl, envOk, memOk, conv, St.get, St.blk]
    intro i ⟨hi, hall⟩
    refine awp_seq_k fun K1 hK1 => ?_
    refine awp_sx prog_ok hP hnt [] [] [] [1, 2, 7, 15] (by kernel_rfl) (G := fun K => K (St.mk [(1, V.d (D.int IntKind.i64 (↑b : Int))), (2, V.d (rp ps)), (7, V.d (D.int IntKind.i64 (↑i : Int))), (15, V.d (D.bool (decide ((↑i : Int) < (↑ps.length : Int)))))] [] 4)) (fun K => by kernel_rfl) ?_
    refine awp_cond rfl (fun h => awp_skip (hK1 _ ?_)) (fun h => awp_exit ⟨(), [], ?_, ?_⟩)
    · simp at h
      obtain ⟨p, hp1⟩ := get_ex (l := ps) (i := i) (by omega)
      refine awp_seq_k fun K2 hK2 => ?_
      refine awp_block ?_
      refine awp_sx prog_ok hP hnt [] [] [some [du p.2]] [1, 2, 7, 25] (by kernel_rfl) (G := fun K => ((0 : Int) ≤ (↑i : Int) ∧ (↑i : Int) < (↑ps.length : Int) ∧ ((↑i : Int).toNat + 1) * 2 ≤ (rc ps).length) ∧ (List.drop 1 (List.drop ((↑i : Int).toNat * 2) (rc ps)))[0]? = some (du p.snd) ∧ K (St.mk [(1, V.d (D.int IntKind.i64 (↑b : Int))), (2, V.d (rp ps)), (7, V.d (D.int IntKind.i64 (↑i : Int))), (25, V.d (D.bool (decide ((↑p.snd.length : Int) > (↑b : Int)))))] [] 12)) (fun K => by kernel_rfl) ?_
      refine ⟨⟨by omega, by omega, by simp; omega⟩, by rw [Int.toNat_natCast, rc_at hp1]; rfl, ?_⟩
      refine awp_cond rfl (fun h2 => ?_) (fun h2 => awp_skip (hK2 _ ?_))
      · simp at h2
        refine awp_sx prog_ok hP hnt [] [] [] [6] (by kernel_rfl) (G := fun K => K (St.mk [(6, V.d (D.bool false))] [] 13)) (fun K => by kernel_rfl) ?_
        refine awp_ret ⟨.inl rfl, retD ?_⟩
        rw [few, decide_eq_false (fun hh => by have := hh.2 p (List.mem_of_getElem? hp1); omega)]; rfl
      · simp at h2
        refine awp_x prog_ok hP hnt [(17, .int .i64 (i + 1 : Nat))] [] [] [1, 2, 7] (by kernel_rfl) (G := fun K => IntKind.i64.wrap ((↑i : Int) + (1 : Int)) = (↑(i + 1) : Int) ∧ K (St.mk [(1, V.d (D.int IntKind.i64 (↑b : Int))), (2, V.d (rp ps)), (7, V.d (D.int IntKind.i64 (↑(i + 1) : Int)))] [] 15)) (fun K => by kernel_rfl) ?_
        refine ⟨by rw [w64] <;> omega, i + 1, [], ⟨⟨by omega, fun k q hk hq => ?_⟩, by omega⟩, ?_⟩
        · by_cases e : k = i
          · subst e; rw [hp1] at hq; cases hq; exact h2
          · exact hall k q (by omega) hq
        constructor <;> simp [hl, envOk, memOk, conv, St.get, St.blk]
    · simp at h
      refine decide_eq_true ⟨by omega, fun p hp => ?_⟩
      obtain ⟨k, hk, e⟩ := List.getElem_of_mem hp
      exact hall k p (by omega) (by rw [← e]; simp [hk])
    · constructor <;> simp [hl, envOk, memOk, conv, St.get, St.blk]
  intro _ hf
  refine awp_sx prog_ok hP hnt [] [] [] [6] (by kernel_rfl) (G := fun K => K (St.mk [(6, V.d (D.bool true))] [] 1)) (fun K => by kernel_rfl) ?_
  refine awp_ret ⟨.inl rfl, retD ?_⟩
  rw [hf]; rfl
end Go.Abs

set_option linter.unusedVariables false
set_option linter.unusedSimpArgs false
namespace Go.Abs
open Go Go.Proofs
set_option maxRecDepth 100000

theorem can_11 : can (fun k => ([1, 1] : List Int).getD k 0) 2 = [riz 1, riz 1] := by
  simp [can, zdeg, mz, List.range_succ]
theorem can_1m : can (fun k => ([1, -1] : List Int).getD k 0) 2 = [riz 1, riz (-1)] := by
  simp [can, zdeg, mz, List.range_succ]
theorem can_awake : can (mulC (co [riz 1, riz 1]) (co [riz 1, riz (-1)]) 2) 4 = [riz 1, riz 0, riz (-1)] := by
  have c0 : co [riz 1, riz 1] 0 = 1 := rval_riz 1
  have c1 : co [riz 1, riz 1] 1 = 1 := rval_riz 1
  have d0 : co [riz 1, riz (-1)] 0 = 1 := rval_riz 1
  have d1 : co [riz 1, riz (-1)] 1 = -1 := rval_riz (-1)
  have d2 : co [riz 1, riz (-1)] 2 = 0 := rfl
  have d3 : co [riz 1, riz (-1)] 3 = 0 := rfl
  simp [can, zdeg, mz, mulC, List.range_succ, c0, c1, d0, d1, d2, d3]

theorem awake_fn : Fn Try.prog 38 [] [] (.d (.bool true)) [] := by
  refine fn0 (nt := 30) (res := [.tmp 0]) Try.func38 rfl (by decide) rfl rfl rfl rfl ?_
  intro C hP hnt hl
  have h1 := uof_fn [1, 1] (by simp) (by intro d hd; simp at hd; omega)
  have h2 := uof_fn [1, -1] (by simp) (by intro d hd; simp at hd; omega)
  have h3 := umul_fn 2 [riz 1, riz 1] [riz 1, riz (-1)] (by omega) (by simp) (by simp)
    (by intro p hp; simp at hp; subst hp; exact riz_i64 (by omega)) (by intro p hp; simp at hp; rcases hp with rfl | rfl <;> exact riz_i64 (by omega))
  have e1 : can (fun k => ([1, 1] : List Int).getD k 0) ([1, 1] : List Int).length = [riz 1, riz 1] := can_11
  have e2 : can (fun k => ([1, -1] : List Int).getD k 0) ([1, -1] : List Int).length = [riz 1, riz (-1)] := can_1m
  have e3 : can (mulC (co [riz 1, riz 1]) (co [riz 1, riz (-1)]) [riz 1, riz 1].length) ([riz 1, riz 1].length + [riz 1, riz (-1)].length) = [riz 1, riz 0, riz (-1)] := can_awake
  rw [e1] at h1
  rw [e2] at h2
  rw [e3] at h3
  refine awp_sx prog_ok hP hnt [] [] [] [] (by kernel_rfl) (G := fun K => K (St.mk [] [] 1)) (fun K => by kernel_rfl) ?_
  refine awp_sx prog_ok hP hnt [] [.val (.d (rp [riz 1, riz 1])), .val (.d (rp [riz 1, riz (-1)])), .val (.d (rp [riz 1, riz 0, riz (-1)]))] [] [1] (by kernel_rfl) (G := fun K => Fn Try.prog 51 [V.d (D.lst 2 [D.int IntKind.i64 (1 : Int), D.int IntKind.i64 (1 : Int)])] [] (V.d (rp [riz (1 : Int), riz (1 : Int)])) [] ∧ Fn Try.prog 51 [V.d (D.lst 2 [D.int IntKind.i64 (1 : Int), D.int IntKind.i64 (-1 : Int)])] [] (V.d (rp [riz (1 : Int), riz (-1 : Int)])) [] ∧ Fn Try.prog 44 [V.d (rp [riz (1 : Int), riz (1 : Int)]), V.d (rp [riz (1 : Int), riz (-1 : Int)])] [] (V.d (rp [riz (1 : Int), riz (0 : Int), riz (-1 : Int)])) [] ∧ K (St.mk [(1, V.d (rp [riz (1 : Int), riz (0 : Int), riz (-1 : Int)]))] [] 7)) (fun K => by kernel_rfl) ?_
  refine ⟨h1, h2, h3, ?_⟩
  have hm1 : RIok 2 (riz (-1)) := riz_i64 (by omega)
  have h0 : RIok 2 (riz 0) := riz_i64 (by omega)
  have hs := same_fn (riz (-1)).1 (riz (-1)).1 (riz (-1)).2 (riz (-1)).2 (Nat.le_trans hm1.2 (by omega)) (Nat.le_trans hm1.2 (by omega)) hm1.1 hm1.1
  rw [decide_eq_true rfl] at hs
  have hg := sign_fn (riz 0).1 (riz 0).2 (Nat.le_trans h0.2 (by omega)) h0.1
  rw [show ival (riz 0).1 (riz 0).2 = 0 from rval_riz 0] at hg
  refine awp_sx prog_ok hP hnt [(10, .bool true), (17, .bool true)] [.val (.agg (iz (-1))), .val (.d (.bool true)), .val (.d (.int .i64 0))] [some (iz (-1)), some (iz 0), some [.bool true]] [0] (by kernel_rfl) (G := fun K => ((↑[riz (1 : Int), riz (0 : Int), riz (-1 : Int)].length : Int) == (3 : Int)) = true ∧ ((0 : Int) ≤ (2 : Int) ∧ (2 : Int) < (↑[riz (1 : Int), riz (0 : Int), riz (-1 : Int)].length : Int) ∧ 6 ≤ (rc [riz (1 : Int), riz (0 : Int), riz (-1 : Int)]).length) ∧ ((List.drop 4 (rc [riz (1 : Int), riz (0 : Int), riz (-1 : Int)]))[0]? = some (D.bool (decide ((-1 : Int) < (0 : Int)))) ∧ (List.drop 4 (rc [riz (1 : Int), riz (0 : Int), riz (-1 : Int)]))[1]? = some (du (dig (-1 : Int).natAbs))) ∧ Fn Try.prog 74 [V.d (D.int IntKind.i64 (-1 : Int))] [] (V.agg [D.bool (decide ((-1 : Int) < (0 : Int))), du (dig (-1 : Int).natAbs)]) [] ∧ Fn Try.prog 122 [V.agg [D.bool (decide ((-1 : Int) < (0 : Int))), du (dig (-1 : Int).natAbs)], V.agg [D.bool (decide ((-1 : Int) < (0 : Int))), du (dig (-1 : Int).natAbs)]] [] (V.d (D.bool true)) [] ∧ true = true ∧ ((0 : Int) ≤ (1 : Int) ∧ (1 : Int) < (↑[riz (1 : Int), riz (0 : Int), riz (-1 : Int)].length : Int) ∧ 4 ≤ (rc [riz (1 : Int), riz (0 : Int), riz (-1 : Int)]).length) ∧ ((List.drop 2 (rc [riz (1 : Int), riz (0 : Int), riz (-1 : Int)]))[0]? = some (D.bool (decide ((0 : Int) < (0 : Int)))) ∧ (List.drop 2 (rc [riz (1 : Int), riz (0 : Int), riz (-1 : Int)]))[1]? = some (du (dig (Int.natAbs (0 : Int))))) ∧ Fn Try.prog 102 [V.agg [D.bool (decide ((0 : Int) < (0 : Int))), du (dig (Int.natAbs (0 : Int)))]] [] (V.d (D.int IntKind.i64 (0 : Int))) [] ∧ ((0 : Int) ≤ (2 : Int) ∧ (2 : Int) < (↑[riz (1 : Int), riz (0 : Int), riz (-1 : Int)].length : Int) ∧ 6 ≤ (rc [riz (1 : Int), riz (0 : Int), riz (-1 : Int)]).length) ∧ (List.drop 0 (List.drop 4 (rc [riz (1 : Int), riz (0 : Int), riz (-1 : Int)])))[0]? = some (D.bool true) ∧ K (St.mk [(0, V.d (D.bool true))] [] 31)) (fun K => by kernel_rfl) ?_
  exact ⟨rfl, ⟨by omega, by simp, by simp⟩, ⟨rfl, rfl⟩, iOf_fn (-1) (by omega) (by omega), hs, rfl, ⟨by omega, by simp, by simp⟩, ⟨rfl, rfl⟩, hg, ⟨by omega, by simp, by simp⟩, rfl, awp_ret ⟨.inl rfl, retD rfl⟩⟩
end Go.Abs

set_option linter.unusedVariables false
set_option linter.unusedSimpArgs false
namespace Go.Abs

/-! ### The Cauchy product of two sequences -/
def cv (f g : Nat → Int) : Nat → Int
  | 0 => f 0 * g 0
  | k + 1 => f 0 * g (k + 1) + cv (fun i => f (i + 1)) g k

theorem cv_right (f g : Nat → Int) (k : Nat) : cv f g (k + 1) = cv f (fun i => g (i + 1)) k + f (k + 1) * g 0 := by
  induction k generalizing f with
  | zero => simp only [cv]
  | succ k ih =>
    rw [cv, ih, cv]
    omega
theorem cv_comm (f g : Nat → Int) (k : Nat) : cv f g k = cv g f k := by
  induction k generalizing f g with
  | zero => simp only [cv]; exact Int.mul_comm _ _
  | succ k ih =>
    rw [cv, cv_right, ih, Int.mul_comm]; omega
theorem cv_ext {f f' g g' : Nat → Int} (hf : ∀ k, f k = f' k) (hg : ∀ k, g k = g' k) (k : Nat) : cv f g k = cv f' g' k := by
  rw [funext hf, funext hg]
theorem cv_add (f g h : Nat → Int) (k : Nat) : cv (fun i => f i + g i) h k = cv f h k + cv g h k := by
  induction k generalizing f g with
  | zero => simp only [cv]; exact Int.add_mul _ _ _
  | succ k ih => simp only [cv]; rw [ih, Int.add_mul]; omega
theorem cv_scale (c : Int) (f h : Nat → Int) (k : Nat) : cv (fun i => c * f i) h k = c * cv f h k := by
  induction k generalizing f with
  | zero => simp only [cv]; rw [Int.mul_assoc]
  | succ k ih => simp only [cv]; rw [ih, Int.mul_add, Int.mul_assoc]
theorem cv_add_right (f g h : Nat → Int) (k : Nat) : cv f (fun i => g i + h i) k = cv f g k + cv f h k := by
  rw [cv_comm, cv_add, cv_comm g, cv_comm h]
theorem cv_assoc (f g h : Nat → Int) (k : Nat) : cv (cv f g) h k = cv f (cv g h) k := by
  induction k generalizing f with
  | zero => simp only [cv]; exact Int.mul_assoc _ _ _
  | succ k ih =>
    have e : (fun i => cv f g (i + 1)) = fun i => f 0 * g (i + 1) + cv (fun i => f (i + 1)) g i := rfl
    rw [cv, e, cv_add, cv_scale (f 0) (fun i => g (i + 1)) h, ih]
    simp only [cv]
    rw [Int.mul_add, Int.mul_assoc]; omega
end Go.Abs

set_option linter.unusedVariables false
set_option linter.unusedSimpArgs false
namespace Go.Abs
open Go Go.Proofs

theorem mulC_succ0 (f g : Nat → Int) (n : Nat) : mulC f g (n + 1) 0 = f 0 * g 0 := by
  induction n with
  | zero => simp [mulC]
  | succ n ih => rw [mulC, ih, if_neg (by omega)]; omega
theorem mulC_succ (f g : Nat → Int) (n k : Nat) : mulC f g (n + 1) (k + 1) = f 0 * g (k + 1) + mulC (fun i => f (i + 1)) g n k := by
  induction n with
  | zero => simp [mulC]
  | succ n ih =>
    rw [mulC, ih]
    simp only [mulC]
    rw [show k + 1 - (n + 1) = k - n by omega]
    by_cases h : n ≤ k
    · rw [if_pos (by omega), if_pos h]; omega
    · rw [if_neg (by omega), if_neg h]; omega
theorem cv_zero {f g : Nat → Int} (h : ∀ a, f a = 0) (k : Nat) : cv f g k = 0 := by
  induction k generalizing f with
  | zero => simp [cv, h]
  | succ k ih => rw [cv, ih (fun a => h _), h]; simp
theorem mulC_cv {f g : Nat → Int} {n : Nat} (h : ∀ a, n ≤ a → f a = 0) (k : Nat) : mulC f g n k = cv f g k := by
  induction k generalizing f n with
  | zero =>
    cases n with
    | zero => rw [cv_zero (fun a => h a (by omega))]; rfl
    | succ n => rw [mulC_succ0]; rfl
  | succ k ih =>
    cases n with
    | zero => rw [cv_zero (fun a => h a (by omega))]; rfl
    | succ n => rw [mulC_succ, cv, ih (fun a ha => h _ (by omega))]
theorem cv_van {f g : Nat → Int} {n m k : Nat} (hf : ∀ a, n ≤ a → f a = 0) (hg : ∀ a, m ≤ a → g a = 0) (h : n + m ≤ k + 1) : cv f g k = 0 := by
  rw [← mulC_cv hf]; exact mulC_van hg h
theorem co_can {F : Nat → Int} {n : Nat} (h : ∀ k, n ≤ k → F k = 0) (k : Nat) : co (can F n) k = F k := by
  rw [← rtrim_mz, co_rtrim]
  by_cases hk : k < n
  · exact co_mz hk
  · rw [co_beyond (by simpa using hk), h k (by omega)]
/-- the product and the sum, as a whole -/
theorem umul_co (ps qs : List RI) (k : Nat) : co (can (mulC (co ps) (co qs) ps.length) (ps.length + qs.length)) k = cv (co ps) (co qs) k := by
  have e : ∀ k, mulC (co ps) (co qs) ps.length k = cv (co ps) (co qs) k := mulC_cv fun a ha => co_beyond ha
  rw [co_can]
  · exact e k
  · intro k hk; exact mulC_van (fun a ha => co_beyond ha) (by omega)
theorem uadd_co (ps qs : List RI) (k : Nat) : co (can (fun k => co ps k + co qs k) (max ps.length qs.length)) k = co ps k + co qs k := by
  rw [co_can]
  intro k hk
  show co ps k + co qs k = 0
  rw [co_beyond (by omega), co_beyond (by omega)]; rfl
theorem usub_co (ps qs : List RI) (k : Nat) : co (can (fun k => co ps k - co qs k) (max ps.length qs.length)) k = co ps k - co qs k := by
  rw [co_can]
  intro k hk
  show co ps k - co qs k = 0
  rw [co_beyond (by omega), co_beyond (by omega)]; rfl
end Go.Abs

set_option linter.unusedVariables false
set_option linter.unusedSimpArgs false
namespace Go.Abs
open Go Go.Proofs
set_option maxRecDepth 100000

def pm (ps qs : List RI) : List RI := can (mulC (co ps) (co qs) ps.length) (ps.length + qs.length)
def pa (ps qs : List RI) : List RI := can (fun k => co ps k + co qs k) (max ps.length qs.length)
def pd (ps qs : List RI) : List RI := can (fun k => co ps k - co qs k) (max ps.length qs.length)
/-- at most n coefficients of at most K digits -/
def Sz (n K : Nat) (ps : List RI) : Prop := ps.length ≤ n ∧ Pok K ps
theorem pm_co (ps qs : List RI) (k : Nat) : co (pm ps qs) k = cv (co ps) (co qs) k := umul_co ps qs k
theorem pa_co (ps qs : List RI) (k : Nat) : co (pa ps qs) k = co ps k + co qs k := uadd_co ps qs k
theorem pd_co (ps qs : List RI) (k : Nat) : co (pd ps qs) k = co ps k - co qs k := usub_co ps qs k
theorem Sz.mono {n m K L : Nat} {ps : List RI} (h : Sz n K ps) (hn : n ≤ m) (hK : K ≤ L) : Sz m L ps := ⟨Nat.le_trans h.1 hn, pok_mono hK h.2⟩
theorem pm_sz {n K : Nat} {ps qs : List RI} (hn : n ≤ 2 ^ 30) (hp : Sz n K ps) (hq : Sz n K qs) : Sz (n + n) (K + K + 1) (pm ps qs) := by
  refine ⟨Nat.le_trans (can_len _ _) (Nat.add_le_add hp.1 hq.1), can_ok fun k => ?_⟩
  exact Nat.lt_of_le_of_lt (mulC_abs (fun a => Nat.le_of_lt (co_abs hp.2 a)) (fun a => Nat.le_of_lt (co_abs hq.2 a)) _ _) (mul_bound (by have := hp.1; omega) (Nat.le_refl _))
theorem pa_sz {n K : Nat} {ps qs : List RI} (hp : Sz n K ps) (hq : Sz n K qs) : Sz n (K + 1) (pa ps qs) :=
  ⟨Nat.le_trans (can_len _ _) (Nat.max_le.2 ⟨hp.1, hq.1⟩), can_ok fun k => (add_small (co_abs hp.2 k) (co_abs hq.2 k)).1⟩
theorem pd_sz {n K : Nat} {ps qs : List RI} (hp : Sz n K ps) (hq : Sz n K qs) : Sz n (K + 1) (pd ps qs) :=
  ⟨Nat.le_trans (can_len _ _) (Nat.max_le.2 ⟨hp.1, hq.1⟩), can_ok fun k => (add_small (co_abs hp.2 k) (co_abs hq.2 k)).2⟩
theorem pm_fn {n K : Nat} {ps qs : List RI} (hn : n ≤ 2 ^ 30) (hK : K ≤ 2 ^ 30) (hp : Sz n K ps) (hq : Sz n K qs) : Fn Try.prog 44 [.d (rp ps), .d (rp qs)] [] (.d (rp (pm ps qs))) [] :=
  umul_fn K ps qs (by omega) (by have := hp.1; omega) (by have := hq.1; omega) hp.2 hq.2
theorem pa_fn {n K : Nat} {ps qs : List RI} (hn : n ≤ 2 ^ 30) (hK : K ≤ 2 ^ 30) (hp : Sz n K ps) (hq : Sz n K qs) : Fn Try.prog 48 [.d (rp ps), .d (rp qs)] [] (.d (rp (pa ps qs))) [] :=
  uadd_fn K ps qs (by omega) (by have := hp.1; omega) (by have := hq.1; omega) hp.2 hq.2
theorem pd_fn {n K : Nat} {ps qs : List RI} (hn : n ≤ 2 ^ 30) (hK : K ≤ 2 ^ 30) (hp : Sz n K ps) (hq : Sz n K qs) : Fn Try.prog 50 [.d (rp ps), .d (rp qs)] [] (.d (rp (pd ps qs))) [] :=
  usub_fn K ps qs (by omega) (by have := hp.1; omega) (by have := hq.1; omega) hp.2 hq.2
theorem psame_fn {n K : Nat} {ps qs : List RI} (hn : n ≤ 2 ^ 40) (hK : K ≤ 2 ^ 40) (hp : Sz n K ps) (hq : Sz n K qs) (h : ∀ k, co ps k = co qs k) : Fn Try.prog 49 [.d (rp ps), .d (rp qs)] [] (.d (.bool true)) [] := by
  have := usame_fn ps qs (by have := hp.1; omega) (by have := hq.1; omega) (pok_mono hK hp.2) (pok_mono hK hq.2)
  rw [show (cmpP ps qs == 0) = true by simpa using cmpP_zero.2 h] at this
  exact this
theorem few_sz {a b : Nat} {ps : List RI} (hd : ∀ p ∈ ps, Dg p.2) (h : few a b ps = true) : Sz a b ps := by
  have := of_decide_eq_true h
  exact ⟨this.1, fun p hp => ⟨hd p hp, this.2 p hp⟩⟩
end Go.Abs

set_option linter.unusedVariables false
set_option linter.unusedSimpArgs false
namespace Go.Abs
open Go Go.Proofs
set_option maxRecDepth 100000

theorem cv_one {f g : Nat → Int} (h0 : g 0 = 1) (h1 : ∀ k, g (k + 1) = 0) (k : Nat) : cv f g k = f k := by
  rw [cv_comm]
  cases k with
  | zero => rw [cv, h0, Int.one_mul]
  | succ k => rw [cv, h0, cv_zero h1]; omega
theorem pd_self (ps : List RI) : pd ps ps = [] := can_none fun k _ => by show co ps k - co ps k = 0; omega
theorem can_1 : can (fun k => ([1] : List Int).getD k 0) 1 = [riz 1] := by
  simp [can, zdeg, mz, List.range_succ]

theorem ring_fn (a b c : List RI) (da : ∀ p ∈ a, Dg p.2) (db : ∀ p ∈ b, Dg p.2) (dc : ∀ p ∈ c, Dg p.2) :
    Fn Try.prog 4 [.d (rp a), .d (rp b), .d (rp c)] [] (.d (.bool true)) [] := by
  refine fn0 (nt := 92) (res := [.tmp 6]) Try.func4 rfl (by decide) rfl rfl rfl rfl ?_
  intro C hP hnt hl
  have fa := few_fn 6 2 a (by omega) (by omega)
  have fb := few_fn 6 2 b (by omega) (by omega)
  have fc := few_fn 6 2 c (by omega) (by omega)
  refine awp_sx prog_ok hP hnt [] [] [] [0, 1, 2] (by kernel_rfl) (G := fun K => K (St.mk [(0, V.d (rp a)), (1, V.d (rp b)), (2, V.d (rp c))] [] 1)) (fun K => by kernel_rfl) ?_
  refine awp_cut (ι := Unit) (fun _ => ⟨[(0, .d (rp a)), (1, .d (rp b)), (2, .d (rp c))], [], 0⟩) (fun _ => few 6 2 a = true ∧ few 6 2 b = true ∧ few 6 2 c = true) ?_ ?_
  · cases ea : few 6 2 a with
    | false =>
      rw [ea] at fa
      refine awp_sx prog_ok hP hnt [(11, .bool false), (16, .bool true), (21, .bool true)] [.val (.d (.bool true)), .val (.d (.bool false))] [] [0, 1, 2, 25] (by kernel_rfl) (G := fun K => Fn Try.prog 38 [] [] (V.d (D.bool true)) [] ∧ (!true) = false ∧ Fn Try.prog 39 [V.d (D.int IntKind.i64 (6 : Int)), V.d (D.int IntKind.i64 (2 : Int)), V.d (rp a)] [] (V.d (D.bool false)) [] ∧ (!false) = true ∧ true = true ∧ K (St.mk [(0, V.d (rp a)), (1, V.d (rp b)), (2, V.d (rp c)), (25, V.d (D.bool true))] [] 18)) (fun K => by kernel_rfl) ?_
      refine ⟨awake_fn, rfl, fa, rfl, rfl, awp_cond (b := true) rfl (fun _ => ?_) nofun⟩
      refine awp_sx prog_ok hP hnt [] [.val (.d (.bool true))] [] [6] (by kernel_rfl) (G := fun K => Fn Try.prog 38 [] [] (V.d (D.bool true)) [] ∧ K (St.mk [(6, V.d (D.bool true))] [] 20)) (fun K => by kernel_rfl) ?_
      exact ⟨awake_fn, awp_ret ⟨.inl rfl, retD rfl⟩⟩
    | true =>
      rw [ea] at fa
      cases eb : few 6 2 b with
      | false =>
        rw [eb] at fb
        refine awp_sx prog_ok hP hnt [(11, .bool false), (16, .bool false), (21, .bool true)] [.val (.d (.bool true)), .val (.d (.bool true)), .val (.d (.bool false))] [] [0, 1, 2, 25] (by kernel_rfl) (G := fun K => Fn Try.prog 38 [] [] (V.d (D.bool true)) [] ∧ (!true) = false ∧ Fn Try.prog 39 [V.d (D.int IntKind.i64 (6 : Int)), V.d (D.int IntKind.i64 (2 : Int)), V.d (rp a)] [] (V.d (D.bool true)) [] ∧ (!true) = false ∧ Fn Try.prog 39 [V.d (D.int IntKind.i64 (6 : Int)), V.d (D.int IntKind.i64 (2 : Int)), V.d (rp b)] [] (V.d (D.bool false)) [] ∧ (!false) = true ∧ K (St.mk [(0, V.d (rp a)), (1, V.d (rp b)), (2, V.d (rp c)), (25, V.d (D.bool true))] [] 18)) (fun K => by kernel_rfl) ?_
        refine ⟨awake_fn, rfl, fa, rfl, fb, rfl, awp_cond (b := true) rfl (fun _ => ?_) nofun⟩
        refine awp_sx prog_ok hP hnt [] [.val (.d (.bool true))] [] [6] (by kernel_rfl) (G := fun K => Fn Try.prog 38 [] [] (V.d (D.bool true)) [] ∧ K (St.mk [(6, V.d (D.bool true))] [] 20)) (fun K => by kernel_rfl) ?_
        exact ⟨awake_fn, awp_ret ⟨.inl rfl, retD rfl⟩⟩
      | true =>
        rw [eb] at fb
        refine awp_sx prog_ok hP hnt [(11, .bool false), (16, .bool false), (21, .bool false)] [.val (.d (.bool true)), .val (.d (.bool true)), .val (.d (.bool true)), .val (.d (.bool (few 6 2 c)))] [] [0, 1, 2, 25] (by kernel_rfl) (G := fun K => Fn Try.prog 38 [] [] (V.d (D.bool true)) [] ∧ (!true) = false ∧ Fn Try.prog 39 [V.d (D.int IntKind.i64 (6 : Int)), V.d (D.int IntKind.i64 (2 : Int)), V.d (rp a)] [] (V.d (D.bool true)) [] ∧ (!true) = false ∧ Fn Try.prog 39 [V.d (D.int IntKind.i64 (6 : Int)), V.d (D.int IntKind.i64 (2 : Int)), V.d (rp b)] [] (V.d (D.bool true)) [] ∧ (!true) = false ∧ Fn Try.prog 39 [V.d (D.int IntKind.i64 (6 : Int)), V.d (D.int IntKind.i64 (2 : Int)), V.d (rp c)] [] (V.d (D.bool (few 6 2 c))) [] ∧ K (St.mk [(0, V.d (rp a)), (1, V.d (rp b)), (2, V.d (rp c)), (25, V.d (D.bool !few 6 2 c))] [] 18)) (fun K => by kernel_rfl) ?_
        refine ⟨awake_fn, rfl, fa, rfl, fb, rfl, fc, awp_cond rfl (fun h => ?_) (fun h => awp_skip ⟨(), [], ⟨rfl, rfl, by simpa using h⟩, ?_⟩)⟩
        · refine awp_sx prog_ok hP hnt [] [.val (.d (.bool true))] [] [6] (by kernel_rfl) (G := fun K => Fn Try.prog 38 [] [] (V.d (D.bool true)) [] ∧ K (St.mk [(6, V.d (D.bool true))] [] 20)) (fun K => by kernel_rfl) ?_
          exact ⟨awake_fn, awp_ret ⟨.inl rfl, retD rfl⟩⟩
        · constructor <;> simp [hl, envOk, memOk, conv, St.get, St.blk]
  intro _ ⟨ea, eb, ec⟩
  have sa := (few_sz da ea).mono (m := 6) (L := 2) (by omega) (by omega)
  have sb := (few_sz db eb).mono (m := 6) (L := 2) (by omega) (by omega)
  have sc := (few_sz dc ec).mono (m := 6) (L := 2) (by omega) (by omega)
  have big : ∀ {n K : Nat} {ps : List RI}, Sz n K ps → n ≤ 1000 → K ≤ 1000 → Sz 1000 1000 ps := fun h h1 h2 => h.mono h1 h2
  have ab := big (pm_sz (by omega) sa sb) (by omega) (by omega)
  have ba := big (pm_sz (by omega) sb sa) (by omega) (by omega)
  have ac := big (pm_sz (by omega) sa sc) (by omega) (by omega)
  have bc := big (pm_sz (by omega) sb sc) (by omega) (by omega)
  have b_c := big (pa_sz sb sc) (by omega) (by omega)
  have a_b := big (pa_sz sa sb) (by omega) (by omega)
  have s1 : Sz 1 2 [riz 1] := ⟨by simp, by intro p hp; simp at hp; subst hp; exact riz_i64 (by omega)⟩
  have sa' := big sa (by omega) (by omega)
  have sb' := big sb (by omega) (by omega)
  have sc' := big sc (by omega) (by omega)
  have s1' := big s1 (by omega) (by omega)
  have big2 : ∀ {n K : Nat} {ps : List RI}, Sz n K ps → n ≤ 10000 → K ≤ 10000 → Sz 10000 10000 ps := fun h h1 h2 => h.mono h1 h2
  have abc1 := big2 (pm_sz (by omega) sa' bc) (by omega) (by omega)
  have abc2 := big2 (pm_sz (by omega) ab sc') (by omega) (by omega)
  have l1 := big2 (pm_sz (by omega) sa' b_c) (by omega) (by omega)
  have r1 := big2 (pa_sz ab ac) (by omega) (by omega)
  have t1 := big2 (pa_sz sa' b_c) (by omega) (by omega)
  have t2 := big2 (pa_sz a_b sc') (by omega) (by omega)
  have a1 := big2 (pm_sz (by omega) sa' s1') (by omega) (by omega)
  have hof := uof_fn [1] (by simp) (by intro d hd; simp at hd; omega)
  rw [show can (fun k => ([1] : List Int).getD k 0) ([1] : List Int).length = [riz 1] from can_1] at hof
  have hsub := pd_fn (by omega) (by omega) sa sa
  rw [pd_self] at hsub
  have hfun : ∀ {x y : List RI}, co (pm x y) = cv (co x) (co y) := fun {x y} => funext (pm_co x y)
  have hfua : ∀ {x y : List RI}, co (pa x y) = fun k => co x k + co y k := fun {x y} => funext (pa_co x y)
  refine awp_sx prog_ok hP hnt [] [.val (.d (rp (pa b c))), .val (.d (rp (pm a (pa b c))))] [] [0, 1, 2, 7] (by kernel_rfl) (G := fun K => Fn Try.prog 48 [V.d (rp b), V.d (rp c)] [] (V.d (rp (pa b c))) [] ∧ Fn Try.prog 44 [V.d (rp a), V.d (rp (pa b c))] [] (V.d (rp (pm a (pa b c)))) [] ∧ K (St.mk [(0, V.d (rp a)), (1, V.d (rp b)), (2, V.d (rp c)), (7, V.d (rp (pm a (pa b c))))] [] 6)) (fun K => by kernel_rfl) ?_
  refine ⟨pa_fn (by omega) (by omega) sb sc, pm_fn (by omega) (by omega) sa' b_c, ?_⟩
  refine awp_sx prog_ok hP hnt [] [.val (.d (rp (pm a b))), .val (.d (rp (pm a c))), .val (.d (rp (pa (pm a b) (pm a c))))] [] [0, 1, 2, 7, 8] (by kernel_rfl) (G := fun K => Fn Try.prog 44 [V.d (rp a), V.d (rp b)] [] (V.d (rp (pm a b))) [] ∧ Fn Try.prog 44 [V.d (rp a), V.d (rp c)] [] (V.d (rp (pm a c))) [] ∧ Fn Try.prog 48 [V.d (rp (pm a b)), V.d (rp (pm a c))] [] (V.d (rp (pa (pm a b) (pm a c)))) [] ∧ K (St.mk [(0, V.d (rp a)), (1, V.d (rp b)), (2, V.d (rp c)), (7, V.d (rp (pm a (pa b c)))), (8, V.d (rp (pa (pm a b) (pm a c))))] [] 14)) (fun K => by kernel_rfl) ?_
  refine ⟨pm_fn (by omega) (by omega) sa sb, pm_fn (by omega) (by omega) sa sc, pa_fn (by omega) (by omega) ab ac, ?_⟩
  refine awp_sx prog_ok hP hnt [(84, .bool true)] [.val (.d (.bool true)), .val (.d (rp (pm a b))), .val (.d (rp (pm b a))), .val (.d (.bool true)), .val (.d (rp (pm b c))), .val (.d (rp (pm a (pm b c)))), .val (.d (rp (pm a b))), .val (.d (rp (pm (pm a b) c))), .val (.d (.bool true)), .val (.d (rp (pa b c))), .val (.d (rp (pa a (pa b c)))), .val (.d (rp (pa a b))), .val (.d (rp (pa (pa a b) c))), .val (.d (.bool true)), .val (.d (.lst 0 [])), .val (.d (rp [riz 1])), .val (.d (rp (pm a [riz 1]))), .val (.d (.bool true))] [] [6] (by kernel_rfl) (G := fun K => Fn Try.prog 49 [V.d (rp (pm a (pa b c))), V.d (rp (pa (pm a b) (pm a c)))] [] (V.d (D.bool true)) [] ∧ Fn Try.prog 44 [V.d (rp a), V.d (rp b)] [] (V.d (rp (pm a b))) [] ∧ Fn Try.prog 44 [V.d (rp b), V.d (rp a)] [] (V.d (rp (pm b a))) [] ∧ Fn Try.prog 49 [V.d (rp (pm a b)), V.d (rp (pm b a))] [] (V.d (D.bool true)) [] ∧ Fn Try.prog 44 [V.d (rp b), V.d (rp c)] [] (V.d (rp (pm b c))) [] ∧ Fn Try.prog 44 [V.d (rp a), V.d (rp (pm b c))] [] (V.d (rp (pm a (pm b c)))) [] ∧ Fn Try.prog 44 [V.d (rp a), V.d (rp b)] [] (V.d (rp (pm a b))) [] ∧ Fn Try.prog 44 [V.d (rp (pm a b)), V.d (rp c)] [] (V.d (rp (pm (pm a b) c))) [] ∧ Fn Try.prog 49 [V.d (rp (pm a (pm b c))), V.d (rp (pm (pm a b) c))] [] (V.d (D.bool true)) [] ∧ Fn Try.prog 48 [V.d (rp b), V.d (rp c)] [] (V.d (rp (pa b c))) [] ∧ Fn Try.prog 48 [V.d (rp a), V.d (rp (pa b c))] [] (V.d (rp (pa a (pa b c)))) [] ∧ Fn Try.prog 48 [V.d (rp a), V.d (rp b)] [] (V.d (rp (pa a b))) [] ∧ Fn Try.prog 48 [V.d (rp (pa a b)), V.d (rp c)] [] (V.d (rp (pa (pa a b) c))) [] ∧ Fn Try.prog 49 [V.d (rp (pa a (pa b c))), V.d (rp (pa (pa a b) c))] [] (V.d (D.bool true)) [] ∧ Fn Try.prog 50 [V.d (rp a), V.d (rp a)] [] (V.d (D.lst 0 [])) [] ∧ ((↑0 : Int) == (0 : Int)) = true ∧ Fn Try.prog 51 [V.d (D.lst 1 [D.int IntKind.i64 (1 : Int)])] [] (V.d (rp [riz (1 : Int)])) [] ∧ Fn Try.prog 44 [V.d (rp a), V.d (rp [riz (1 : Int)])] [] (V.d (rp (pm a [riz (1 : Int)]))) [] ∧ Fn Try.prog 49 [V.d (rp (pm a [riz (1 : Int)])), V.d (rp a)] [] (V.d (D.bool true)) [] ∧ K (St.mk [(6, V.d (D.bool true))] [] 68)) (fun K => by kernel_rfl) ?_
  have e1 : ∀ k, co (pm a (pa b c)) k = co (pa (pm a b) (pm a c)) k := fun k => by
    rw [pm_co, hfua, cv_add_right, pa_co, pm_co, pm_co]
  have e2 : ∀ k, co (pm a b) k = co (pm b a) k := fun k => by rw [pm_co, pm_co, cv_comm]
  have e3 : ∀ k, co (pm a (pm b c)) k = co (pm (pm a b) c) k := fun k => by rw [pm_co, pm_co, hfun, hfun, cv_assoc]
  have e4 : ∀ k, co (pa a (pa b c)) k = co (pa (pa a b) c) k := fun k => by simp only [pa_co]; omega
  have e5 : ∀ k, co (pm a [riz 1]) k = co a k := fun k => by
    rw [pm_co]
    exact cv_one (rval_riz 1) (fun k => co_beyond (by simp)) k
  exact ⟨psame_fn (by omega) (by omega) l1 r1 e1, pm_fn (by omega) (by omega) sa sb, pm_fn (by omega) (by omega) sb sa, psame_fn (by omega) (by omega) ab ba e2,
    pm_fn (by omega) (by omega) sb sc, pm_fn (by omega) (by omega) sa' bc, pm_fn (by omega) (by omega) sa sb, pm_fn (by omega) (by omega) ab sc', psame_fn (by omega) (by omega) abc1 abc2 e3,
    pa_fn (by omega) (by omega) sb sc, pa_fn (by omega) (by omega) sa' b_c, pa_fn (by omega) (by omega) sa sb, pa_fn (by omega) (by omega) a_b sc', psame_fn (by omega) (by omega) t1 t2 e4,
    hsub, rfl, hof, pm_fn (by omega) (by omega) sa' s1', psame_fn (by omega) (by omega) a1 (big2 sa (by omega) (by omega)) e5, awp_ret ⟨.inl rfl, retD rfl⟩⟩
end Go.Abs
