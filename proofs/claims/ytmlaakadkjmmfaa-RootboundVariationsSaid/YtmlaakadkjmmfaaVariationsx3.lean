import Derived.WalkKit
import Derived.Orders
import Derived.Below
import Derived.Laws.AppendOwn
import Derived.Calls
import Derived.OpenShut
import Derived.ChangeArms
import Derived.ChangeShapes
import Derived.WideShapes
import Derived.KernelRfl
import Derived.JoinedOf
import Derived.Scope
import Derived.ProofKit
import Derived.ShutString
import Derived.ChangeOld
import Derived.SizedLaws
import Derived.Test.YtmlaakadkjmmfaaProg
import Derived.Test.YtmlaakadkjmmfaaVariationsx0
import Derived.Test.YtmlaakadkjmmfaaVariationsx1
import Derived.Test.YtmlaakadkjmmfaaVariationsx2
/- Texts that the proof of RootboundVariations leans on: what is told of the functions it reaches. -/
set_option linter.unusedVariables false
set_option linter.unusedSimpArgs false
namespace Go.Abs
open Go Go.Proofs
def part (F : Nat → Int) (i k : Nat) : Int := if k < i then F k else 0
theorem part_zero (F : Nat → Int) (n : Nat) : mz (part F 0) n = List.replicate n (riz 0) := by
  rw [mz_zero]; exact mz_ext fun k _ => by unfold part; rw [if_neg (by omega)]
theorem part_set {F : Nat → Int} {i n : Nat} : (mz (part F i) n).set i (riz (F i)) = mz (part F (i + 1)) n := by
  refine mz_set (by unfold part; rw [if_pos (by omega)]) fun k hk _ => ?_
  unfold part
  by_cases c : k < i
  · rw [if_pos c, if_pos (by omega)]
  · rw [if_neg c, if_neg (by omega)]
theorem part_all (F : Nat → Int) (n : Nat) : mz (part F n) n = mz F n := mz_ext fun k hk => by unfold part; rw [if_pos hk]
theorem getD_ok {K : Nat} {ps : List RI} (h : Pok K ps) (k : Nat) : RIok K (ps.getD k (false, [])) := by
  rw [List.getD_eq_getElem?_getD]
  cases e : ps[k]? with
  | none => exact ⟨fun d hd => by simp at hd, by simp⟩
  | some p => exact h p (List.mem_of_getElem? e)
theorem getD_get {ps : List RI} {k : Nat} (h : k < ps.length) : ps[k]? = some (ps.getD k (false, [])) := by
  rw [List.getD_eq_getElem?_getD]; simp [h]
theorem getD_none {ps : List RI} {k : Nat} (h : ps.length ≤ k) : ps.getD k (false, []) = (false, []) := by
  rw [List.getD_eq_getElem?_getD, List.getElem?_eq_none h]; rfl
end Go.Abs

set_option linter.unusedVariables false
set_option linter.unusedSimpArgs false
namespace Go.Abs
open Go Go.Proofs
set_option maxRecDepth 100000

theorem comb_fn (K fid : Nat) (op : Int → Int → Int) (hF : ∀ p q : RI, RIok K p → RIok K q → Fn Try.prog fid [.agg (ic p.1 p.2), .agg (ic q.1 q.2)] [] (.agg (iz (op (rval p) (rval q)))) [])
    (ps qs : List RI) (hn : ps.length ≤ 2 ^ 40) (hm : qs.length ≤ 2 ^ 40) (hp : Pok K ps) (hq : Pok K qs) :
    Fn Try.prog 163 [.d (rp ps), .d (rp qs), .fn fid []] [] (.d (rp (mz (fun k => op (co ps k) (co qs k)) (max ps.length qs.length)))) [] := by
  refine fn0 (nt := 50) (res := [.tmp 6]) Try.func163 rfl (by decide) rfl rfl rfl rfl ?_
  intro C hP hnt hl
  obtain ⟨N, hN⟩ : ∃ N, N = max ps.length qs.length := ⟨_, rfl⟩
  rw [← hN]
  obtain ⟨F, hFF⟩ : ∃ F : Nat → Int, F = fun k => op (co ps k) (co qs k) := ⟨_, rfl⟩
  rw [← hFF]
  refine awp_sx prog_ok hP hnt [] [] [] [0, 1, 2] (by kernel_rfl) (G := fun K => K (St.mk [(0, V.d (rp ps)), (1, V.d (rp qs)), (2, V.fn fid [])] [] 1)) (fun K => by kernel_rfl) ?_
  refine awp_sx prog_ok hP hnt [(16, .int .i64 N)] [] [] [0, 1, 2, 7] (by kernel_rfl) (G := fun K => (if (↑qs.length : Int) > (↑ps.length : Int) then (↑qs.length : Int) else (↑ps.length : Int)) = (↑N : Int) ∧ ((↑N : Int) = (↑N : Int) ∧ (0 : Int) ≤ (↑N : Int) ∧ (↑N : Int) * (↑32 : Int) ≤ (2 : Int) ^ 47) ∧ K (St.mk [(0, V.d (rp ps)), (1, V.d (rp qs)), (2, V.fn fid []), (7, V.own 6 0 (↑N : Int).toNat 2)] [(6, some (Blk.mk (zeros (↑N : Int).toNat (TI.mk (Kind.struct [(0, 1), (1, 1)]) 2 32 [D.bool false, D.lst 0 []]).zero) true))] 8)) (fun K => by kernel_rfl) ?_
  refine ⟨by split <;> omega, by omega, ?_⟩
  refine awp_sx prog_ok hP hnt [] [] [] [0, 1, 2, 7, 8] (by kernel_rfl) (G := fun K => K (St.mk [(0, V.d (rp ps)), (1, V.d (rp qs)), (2, V.fn fid []), (7, V.own 6 0 (↑N : Int).toNat 2), (8, V.ptr 8 0)] [(6, some (Blk.mk (zeros (↑N : Int).toNat (TI.mk (Kind.struct [(0, 1), (1, 1)]) 2 32 [D.bool false, D.lst 0 []]).zero) true)), (8, some (Blk.mk [D.bool false, D.lst 0 []] true))] 9)) (fun K => by kernel_rfl) ?_
  refine awp_cut (ι := Unit) (fun _ => ⟨[(7, .own 0 0 N 2)], [(0, some ⟨rc (mz F N), true⟩)], 1⟩) (fun _ => True) ?_ ?_
  · refine awp_sx prog_ok hP hnt [] [] [] [0, 1, 2, 7, 8, 19, 20] (by kernel_rfl) (G := fun K => K (St.mk [(0, V.d (rp ps)), (1, V.d (rp qs)), (2, V.fn fid []), (7, V.own 6 0 (↑N : Int).toNat 2), (8, V.ptr 8 0), (19, V.d (D.int IntKind.i64 (↑(↑N : Int).toNat : Int))), (20, V.d (D.int IntKind.i64 (0 : Int)))] [(6, some (Blk.mk (zeros (↑N : Int).toNat (TI.mk (Kind.struct [(0, 1), (1, 1)]) 2 32 [D.bool false, D.lst 0 []]).zero) true)), (8, some (Blk.mk [D.bool false, D.lst 0 []] true))] 12)) (fun K => by kernel_rfl) ?_
    refine awp_block ?_
    refine awp_loop (ι := Nat) (fun i => ⟨[(0, .d (rp ps)), (1, .d (rp qs)), (2, .fn fid []), (7, .own 0 0 N 2), (8, .ptr 1 0), (19, .d (.int .i64 N)), (20, .d (.int .i64 i))], [(0, some ⟨rc (mz (part F i) N), true⟩), (1, some ⟨[.bool false, .lst 0 []], true⟩)], 2⟩)
      (fun i => i ≤ N) (fun i => N - i) 0 [(0, 6), (1, 8)] (by simp) ?_ ?_
    · constructor <;> simp [hl, envOk, memOk, conv, St.get, St.blk, zeros_rc, part_zero]
    intro i hi
    refine awp_sx prog_ok hP hnt [] [] [] [0, 1, 2, 7, 8, 19, 20, 21] (by kernel_rfl) (G := fun K => K (St.mk [(0, V.d (rp ps)), (1, V.d (rp qs)), (2, V.fn fid []), (7, V.own 0 0 N 2), (8, V.ptr 1 0), (19, V.d (D.int IntKind.i64 (↑N : Int))), (20, V.d (D.int IntKind.i64 (↑i : Int))), (21, V.d (D.bool (decide ((↑i : Int) < (↑N : Int)))))] [(0, some (Blk.mk (rc (mz (part F i) N)) true)), (1, some (Blk.mk [D.bool false, D.lst 0 []] true))] 3)) (fun K => by kernel_rfl) ?_
    refine awp_seq_k fun K1 hK1 => ?_
    refine awp_cond rfl (fun h => awp_skip (hK1 _ ?_)) (fun h => awp_exit ⟨(), [(0, 0)], trivial, ?_⟩)
    · simp at h
      obtain ⟨p, hp1⟩ : ∃ p, p = ps.getD i (false, []) := ⟨_, rfl⟩
      obtain ⟨q, hq1⟩ : ∃ q, q = qs.getD i (false, []) := ⟨_, rfl⟩
      have hpo : RIok K p := hp1 ▸ getD_ok hp i
      have hqo : RIok K q := hq1 ▸ getD_ok hq i
      have hFi : op (rval p) (rval q) = F i := by rw [hFF, hp1, hq1]; rfl
      refine awp_seq_k fun K2 hK2 => ?_
      refine awp_block ?_
      refine awp_sx prog_ok hP hnt [] [] [] [0, 1, 2, 7, 8, 9, 19, 20] (by kernel_rfl) (G := fun K => K (St.mk [(0, V.d (rp ps)), (1, V.d (rp qs)), (2, V.fn fid []), (7, V.own 0 0 N 2), (8, V.ptr 1 0), (19, V.d (D.int IntKind.i64 (↑N : Int))), (20, V.d (D.int IntKind.i64 (↑i : Int))), (9, V.d (D.int IntKind.i64 (↑i : Int)))] [(0, some (Blk.mk (rc (mz (part F i) N)) true)), (1, some (Blk.mk [D.bool false, D.lst 0 []] true))] 5)) (fun K => by kernel_rfl) ?_
      refine awp_sx prog_ok hP hnt [] [] [] [0, 1, 2, 7, 8, 9, 10, 11, 19, 20] (by kernel_rfl) (G := fun K => 2 ≤ (TI.mk (Kind.struct [(0, 1), (1, 1)]) 2 32 [D.bool false, D.lst 0 []]).zero.length ∧ 2 ≤ (TI.mk (Kind.struct [(0, 1), (1, 1)]) 2 32 [D.bool false, D.lst 0 []]).zero.length ∧ K (St.mk [(0, V.d (rp ps)), (1, V.d (rp qs)), (2, V.fn fid []), (7, V.own 0 0 N 2), (8, V.ptr 1 0), (19, V.d (D.int IntKind.i64 (↑N : Int))), (20, V.d (D.int IntKind.i64 (↑i : Int))), (9, V.d (D.int IntKind.i64 (↑i : Int))), (10, V.ptr 7 0), (11, V.ptr 8 0)] [(0, some (Blk.mk (rc (mz (part F i) N)) true)), (1, some (Blk.mk [D.bool false, D.lst 0 []] true)), (7, some (Blk.mk [D.bool false, D.lst 0 []] true)), (8, some (Blk.mk [D.bool false, D.lst 0 []] true))] 11)) (fun K => by kernel_rfl) ?_
      refine ⟨by simp, by simp, ?_⟩
      refine awp_cut (ι := Unit) (fun _ => ⟨[(0, .d (rp ps)), (1, .d (rp qs)), (2, .fn fid []), (7, .own 0 0 N 2), (8, .ptr 1 0), (9, .d (.int .i64 i)), (10, .ptr 2 0), (11, .ptr 3 0), (19, .d (.int .i64 N)), (20, .d (.int .i64 i))], [(0, some ⟨rc (mz (part F i) N), true⟩), (1, some ⟨[.bool false, .lst 0 []], true⟩), (2, some ⟨[.bool p.1, du p.2], true⟩), (3, some ⟨[.bool false, .lst 0 []], true⟩)], 4⟩) (fun _ => True) ?_ ?_
      · refine awp_sx prog_ok hP hnt [] [] [] [0, 1, 2, 7, 8, 9, 10, 11, 19, 20, 28] (by kernel_rfl) (G := fun K => K (St.mk [(0, V.d (rp ps)), (1, V.d (rp qs)), (2, V.fn fid []), (7, V.own 0 0 N 2), (8, V.ptr 1 0), (19, V.d (D.int IntKind.i64 (↑N : Int))), (20, V.d (D.int IntKind.i64 (↑i : Int))), (9, V.d (D.int IntKind.i64 (↑i : Int))), (10, V.ptr 7 0), (11, V.ptr 8 0), (28, V.d (D.bool (decide ((↑i : Int) < (↑ps.length : Int)))))] [(0, some (Blk.mk (rc (mz (part F i) N)) true)), (1, some (Blk.mk [D.bool false, D.lst 0 []] true)), (7, some (Blk.mk [D.bool false, D.lst 0 []] true)), (8, some (Blk.mk [D.bool false, D.lst 0 []] true))] 15)) (fun K => by kernel_rfl) ?_
        refine awp_cond rfl (fun h => ?_) (fun h => awp_skip ⟨(), [(0, 0), (1, 1), (2, 7), (3, 8)], trivial, ?_⟩)
        · simp at h
          have hg := getD_get h
          rw [← hp1] at hg
          refine awp_x prog_ok hP hnt [] [] [some [.bool p.1, du p.2]] [0, 1, 2, 7, 8, 9, 10, 11, 19, 20] (by kernel_rfl) (G := fun K => ((0 : Int) ≤ (↑i : Int) ∧ (↑i : Int) < (↑ps.length : Int) ∧ ((↑i : Int).toNat + 1) * 2 ≤ (rc ps).length) ∧ ((List.drop ((↑i : Int).toNat * 2) (rc ps))[0]? = some (D.bool p.fst) ∧ (List.drop ((↑i : Int).toNat * 2) (rc ps))[1]? = some (du p.snd)) ∧ 0 + [D.bool p.fst, du p.snd].length ≤ [D.bool false, D.lst 0 []].length ∧ K (St.mk [(0, V.d (rp ps)), (1, V.d (rp qs)), (2, V.fn fid []), (7, V.own 0 0 N 2), (8, V.ptr 1 0), (19, V.d (D.int IntKind.i64 (↑N : Int))), (20, V.d (D.int IntKind.i64 (↑i : Int))), (9, V.d (D.int IntKind.i64 (↑i : Int))), (10, V.ptr 7 0), (11, V.ptr 8 0)] [(0, some (Blk.mk (rc (mz (part F i) N)) true)), (1, some (Blk.mk [D.bool false, D.lst 0 []] true)), (7, some (Blk.mk [D.bool p.fst, du p.snd] true)), (8, some (Blk.mk [D.bool false, D.lst 0 []] true))] 20)) (fun K => by kernel_rfl) ?_
          refine ⟨⟨by omega, by omega, by simp; omega⟩, by rw [Int.toNat_natCast, rc_at hg]; exact ⟨rfl, rfl⟩, by simp, (), [(0, 0), (1, 1), (2, 7), (3, 8)], trivial, ?_⟩
          constructor <;> simp [hl, envOk, memOk, conv, St.get, St.blk]
        · simp at h
          rw [getD_none h] at hp1
          subst hp1
          constructor <;> simp [hl, envOk, memOk, conv, St.get, St.blk, du, u32s]
      intro _ _
      refine awp_cut (ι := Unit) (fun _ => ⟨[(0, .d (rp ps)), (1, .d (rp qs)), (2, .fn fid []), (7, .own 0 0 N 2), (8, .ptr 1 0), (9, .d (.int .i64 i)), (10, .ptr 2 0), (11, .ptr 3 0), (19, .d (.int .i64 N)), (20, .d (.int .i64 i))], [(0, some ⟨rc (mz (part F i) N), true⟩), (1, some ⟨[.bool false, .lst 0 []], true⟩), (2, some ⟨[.bool p.1, du p.2], true⟩), (3, some ⟨[.bool q.1, du q.2], true⟩)], 4⟩) (fun _ => True) ?_ ?_
      · refine awp_sx prog_ok hP hnt [] [] [] [0, 1, 2, 7, 8, 9, 10, 11, 19, 20, 36] (by kernel_rfl) (G := fun K => K (St.mk [(0, V.d (rp ps)), (1, V.d (rp qs)), (2, V.fn fid []), (7, V.own 0 0 N 2), (8, V.ptr 1 0), (9, V.d (D.int IntKind.i64 (↑i : Int))), (10, V.ptr 2 0), (11, V.ptr 3 0), (19, V.d (D.int IntKind.i64 (↑N : Int))), (20, V.d (D.int IntKind.i64 (↑i : Int))), (36, V.d (D.bool (decide ((↑i : Int) < (↑qs.length : Int)))))] [(0, some (Blk.mk (rc (mz (part F i) N)) true)), (1, some (Blk.mk [D.bool false, D.lst 0 []] true)), (2, some (Blk.mk [D.bool p.fst, du p.snd] true)), (3, some (Blk.mk [D.bool false, D.lst 0 []] true))] 8)) (fun K => by kernel_rfl) ?_
        refine awp_cond rfl (fun h => ?_) (fun h => awp_skip ⟨(), [(0, 0), (1, 1), (2, 2), (3, 3)], trivial, ?_⟩)
        · simp at h
          have hg := getD_get h
          rw [← hq1] at hg
          refine awp_x prog_ok hP hnt [] [] [some [.bool q.1, du q.2]] [0, 1, 2, 7, 8, 9, 10, 11, 19, 20] (by kernel_rfl) (G := fun K => ((0 : Int) ≤ (↑i : Int) ∧ (↑i : Int) < (↑qs.length : Int) ∧ ((↑i : Int).toNat + 1) * 2 ≤ (rc qs).length) ∧ ((List.drop ((↑i : Int).toNat * 2) (rc qs))[0]? = some (D.bool q.fst) ∧ (List.drop ((↑i : Int).toNat * 2) (rc qs))[1]? = some (du q.snd)) ∧ 0 + [D.bool q.fst, du q.snd].length ≤ [D.bool false, D.lst 0 []].length ∧ K (St.mk [(0, V.d (rp ps)), (1, V.d (rp qs)), (2, V.fn fid []), (7, V.own 0 0 N 2), (8, V.ptr 1 0), (9, V.d (D.int IntKind.i64 (↑i : Int))), (10, V.ptr 2 0), (11, V.ptr 3 0), (19, V.d (D.int IntKind.i64 (↑N : Int))), (20, V.d (D.int IntKind.i64 (↑i : Int)))] [(0, some (Blk.mk (rc (mz (part F i) N)) true)), (1, some (Blk.mk [D.bool false, D.lst 0 []] true)), (2, some (Blk.mk [D.bool p.fst, du p.snd] true)), (3, some (Blk.mk [D.bool q.fst, du q.snd] true))] 13)) (fun K => by kernel_rfl) ?_
          refine ⟨⟨by omega, by omega, by simp; omega⟩, by rw [Int.toNat_natCast, rc_at hg]; exact ⟨rfl, rfl⟩, by simp, (), [(0, 0), (1, 1), (2, 2), (3, 3)], trivial, ?_⟩
          constructor <;> simp [hl, envOk, memOk, conv, St.get, St.blk]
        · simp at h
          rw [getD_none h] at hq1
          subst hq1
          constructor <;> simp [hl, envOk, memOk, conv, St.get, St.blk, du, u32s]
      intro _ _
      have hcall := hF p q hpo hqo
      rw [hFi] at hcall
      refine awp_x prog_ok hP hnt [] [.val (.agg (iz (F i)))] [] [0, 1, 2, 7, 8, 19, 20] (by kernel_rfl) (G := fun K => Fn Try.prog fid [V.agg [D.bool p.fst, du p.snd], V.agg [D.bool q.fst, du q.snd]] [] (V.agg [D.bool (decide (F i < (0 : Int))), du (dig (F i).natAbs)]) [] ∧ ((0 : Int) ≤ (↑i : Int) ∧ (↑i : Int) < (↑N : Int)) ∧ 0 + (↑i : Int).toNat * 2 + (iz (F i)).length ≤ (rc (mz (part F i) N)).length ∧ K (St.mk [(0, V.d (rp ps)), (1, V.d (rp qs)), (2, V.fn fid []), (7, V.own 0 0 N 2), (8, V.ptr 1 0), (19, V.d (D.int IntKind.i64 (↑N : Int))), (20, V.d (D.int IntKind.i64 (↑i : Int)))] [(0, some (Blk.mk (setCells (rc (mz (part F i) N)) (0 + (↑i : Int).toNat * 2) (iz (F i))) true)), (1, some (Blk.mk [D.bool false, D.lst 0 []] true)), (2, some (Blk.mk [D.bool p.fst, du p.snd] true)), (3, some (Blk.mk [D.bool q.fst, du q.snd] true))] 12)) (fun K => by kernel_rfl) ?_
      have hsc := setCells_rc (mz (part F i) N) i (riz (F i))
      rw [part_set, ic_riz] at hsc
      refine ⟨hcall, ⟨by omega, by omega⟩, ?_, hK2 _ ?_⟩
      · rw [rc_len, mz_len, Int.toNat_natCast, Nat.zero_add]; show i * 2 + 2 ≤ N * 2; omega
      refine awp_x prog_ok hP hnt [(48, .int .i64 (i + 1 : Nat))] [] [] [0, 1, 2, 7, 8, 19, 20] (by kernel_rfl) (G := fun K => IntKind.i64.wrap ((↑i : Int) + (1 : Int)) = (↑(i + 1) : Int) ∧ K (St.mk [(0, V.d (rp ps)), (1, V.d (rp qs)), (2, V.fn fid []), (7, V.own 0 0 N 2), (8, V.ptr 1 0), (19, V.d (D.int IntKind.i64 (↑N : Int))), (20, V.d (D.int IntKind.i64 (↑(i + 1) : Int)))] [(0, some (Blk.mk (setCells (rc (mz (part F i) N)) (0 + (↑i : Int).toNat * 2) (iz (F i))) true)), (1, some (Blk.mk [D.bool false, D.lst 0 []] true)), (2, some (Blk.mk [D.bool p.fst, du p.snd] true)), (3, some (Blk.mk [D.bool q.fst, du q.snd] true))] 14)) (fun K => by kernel_rfl) ?_
      refine ⟨by rw [w64] <;> omega, i + 1, [(0, 0), (1, 1)], ⟨by omega, by omega⟩, ?_⟩
      rw [Int.toNat_natCast, Nat.zero_add, hsc]
      constructor <;> simp [hl, envOk, memOk, conv, St.get, St.blk]
    · simp at h
      have : i = N := by omega
      subst this
      constructor <;> simp [hl, envOk, memOk, conv, St.get, St.blk, part_all]
  intro _ _
  refine awp_sx prog_ok hP hnt [] [] [] [6] (by kernel_rfl) (G := fun K => K (St.mk [(6, V.own 0 0 N 2)] [(0, some (Blk.mk (rc (mz F N)) true))] 3)) (fun K => by kernel_rfl) ?_
  refine awp_ret ⟨.inl rfl, retOwn rfl rfl ?_⟩
  exact own_rp (by simp)
end Go.Abs

set_option linter.unusedVariables false
set_option linter.unusedSimpArgs false
namespace Go.Abs
open Go Go.Proofs
set_option maxRecDepth 100000

theorem mz_ok {K : Nat} {F : Nat → Int} {n : Nat} (h : ∀ k, (F k).natAbs < 4294967296 ^ K) : Pok K (mz F n) := fun p hp => by
  simp only [mz, List.mem_map] at hp
  obtain ⟨k, _, rfl⟩ := hp
  exact riz_ok (h k)
theorem can_ok {K : Nat} {F : Nat → Int} {n : Nat} (h : ∀ k, (F k).natAbs < 4294967296 ^ K) : Pok K (can F n) := mz_ok h
theorem can_len (F : Nat → Int) (n : Nat) : (can F n).length ≤ n := by unfold can; rw [mz_len]; exact zdeg_le F n
theorem add_small {K : Nat} {x y : Int} (hx : x.natAbs < 4294967296 ^ K) (hy : y.natAbs < 4294967296 ^ K) : (x + y).natAbs < 4294967296 ^ (K + 1) ∧ (x - y).natAbs < 4294967296 ^ (K + 1) := by
  rw [Nat.pow_succ]
  generalize 4294967296 ^ K = X at *
  omega

theorem uadd_fn (K : Nat) (ps qs : List RI) (hK : K + 1 ≤ 2 ^ 40) (hn : ps.length ≤ 2 ^ 40) (hm : qs.length ≤ 2 ^ 40) (hp : Pok K ps) (hq : Pok K qs) :
    Fn Try.prog 48 [.d (rp ps), .d (rp qs)] [] (.d (rp (can (fun k => co ps k + co qs k) (max ps.length qs.length)))) [] := by
  refine fn0 (nt := 9) (res := [.tmp 4]) Try.func48 rfl (by decide) rfl rfl rfl rfl ?_
  intro C hP hnt hl
  obtain ⟨N, hN⟩ : ∃ N, N = max ps.length qs.length := ⟨_, rfl⟩
  have h1 := comb_fn K 96 (fun x y => x + y) (fun p q hp hq => iadd_fn p.1 q.1 p.2 q.2 (Nat.le_trans hp.2 (by omega)) (Nat.le_trans hq.2 (by omega)) hp.1 hq.1) ps qs hn hm hp hq
  rw [← hN] at h1 ⊢
  have h2 := utrim_fn (mz (fun k => co ps k + co qs k) N) (by simp; omega) (pok_mono hK (mz_ok fun k => (add_small (co_abs hp k) (co_abs hq k)).1))
  rw [rtrim_mz] at h2
  refine awp_sx prog_ok hP hnt [] [] [] [0, 1] (by kernel_rfl) (G := fun K => K (St.mk [(0, V.d (rp ps)), (1, V.d (rp qs))] [] 1)) (fun K => by kernel_rfl) ?_
  refine awp_sx prog_ok hP hnt [] [.val (.d (rp (mz (fun k => co ps k + co qs k) N))), .val (.d (rp (can (fun k => co ps k + co qs k) N)))] [] [4] (by kernel_rfl) (G := fun K => Fn Try.prog 163 [V.d (rp ps), V.d (rp qs), V.fn 96 []] [] (V.d (rp (mz (fun k => co ps k + co qs k) N))) [] ∧ Fn Try.prog 161 [V.d (rp (mz (fun k => co ps k + co qs k) N))] [] (V.d (rp (can (fun k => co ps k + co qs k) N))) [] ∧ K (St.mk [(4, V.d (rp (can (fun k => co ps k + co qs k) N)))] [] 6)) (fun K => by kernel_rfl) ?_
  refine ⟨h1, h2, awp_ret ⟨.inl rfl, retD rfl⟩⟩

theorem usub_fn (K : Nat) (ps qs : List RI) (hK : K + 1 ≤ 2 ^ 40) (hn : ps.length ≤ 2 ^ 40) (hm : qs.length ≤ 2 ^ 40) (hp : Pok K ps) (hq : Pok K qs) :
    Fn Try.prog 50 [.d (rp ps), .d (rp qs)] [] (.d (rp (can (fun k => co ps k - co qs k) (max ps.length qs.length)))) [] := by
  refine fn0 (nt := 9) (res := [.tmp 4]) Try.func50 rfl (by decide) rfl rfl rfl rfl ?_
  intro C hP hnt hl
  obtain ⟨N, hN⟩ : ∃ N, N = max ps.length qs.length := ⟨_, rfl⟩
  have h1 := comb_fn K 164 (fun x y => x - y) (fun p q hp hq => isub_fn p.1 q.1 p.2 q.2 (Nat.le_trans hp.2 (by omega)) (Nat.le_trans hq.2 (by omega)) hp.1 hq.1) ps qs hn hm hp hq
  rw [← hN] at h1 ⊢
  have h2 := utrim_fn (mz (fun k => co ps k - co qs k) N) (by simp; omega) (pok_mono hK (mz_ok fun k => (add_small (co_abs hp k) (co_abs hq k)).2))
  rw [rtrim_mz] at h2
  refine awp_sx prog_ok hP hnt [] [] [] [0, 1] (by kernel_rfl) (G := fun K => K (St.mk [(0, V.d (rp ps)), (1, V.d (rp qs))] [] 1)) (fun K => by kernel_rfl) ?_
  refine awp_sx prog_ok hP hnt [] [.val (.d (rp (mz (fun k => co ps k - co qs k) N))), .val (.d (rp (can (fun k => co ps k - co qs k) N)))] [] [4] (by kernel_rfl) (G := fun K => Fn Try.prog 163 [V.d (rp ps), V.d (rp qs), V.fn 164 []] [] (V.d (rp (mz (fun k => co ps k - co qs k) N))) [] ∧ Fn Try.prog 161 [V.d (rp (mz (fun k => co ps k - co qs k) N))] [] (V.d (rp (can (fun k => co ps k - co qs k) N))) [] ∧ K (St.mk [(4, V.d (rp (can (fun k => co ps k - co qs k) N)))] [] 6)) (fun K => by kernel_rfl) ?_
  refine ⟨h1, h2, awp_ret ⟨.inl rfl, retD rfl⟩⟩
end Go.Abs

set_option linter.unusedVariables false
set_option linter.unusedSimpArgs false
namespace Go.Abs
open Go Go.Proofs
set_option maxRecDepth 100000

def i64s (l : List Int) : List D := l.map fun d => D.int .i64 d
@[simp] theorem i64s_len (l : List Int) : (i64s l).length = l.length := by simp [i64s]
@[simp] theorem i64s_get (l : List Int) (i : Nat) : (i64s l)[i]? = (l[i]?).map fun d => D.int .i64 d := by simp [i64s]
abbrev In64 (l : List Int) : Prop := ∀ d ∈ l, -9223372036854775808 ≤ d ∧ d ≤ 9223372036854775807
theorem riz_i64 {z : Int} (h : -9223372036854775808 ≤ z ∧ z ≤ 9223372036854775807) : RIok 2 (riz z) := riz_ok (by omega)

theorem uof_fn (l : List Int) (hn : l.length ≤ 2 ^ 40) (hl64 : In64 l) : Fn Try.prog 51 [.d (.lst l.length (i64s l))] [] (.d (rp (can (fun k => l.getD k 0) l.length))) [] := by
  refine fn0 (nt := 24) (res := [.tmp 2]) Try.func51 rfl (by decide) rfl rfl rfl rfl ?_
  intro C hP hnt hl
  obtain ⟨F, hF⟩ : ∃ F : Nat → Int, F = fun k => l.getD k 0 := ⟨_, rfl⟩
  rw [← hF]
  refine awp_sx prog_ok hP hnt [] [] [] [0] (by kernel_rfl) (G := fun K => K (St.mk [(0, V.d (D.lst l.length (i64s l)))] [] 1)) (fun K => by kernel_rfl) ?_
  refine awp_sx prog_ok hP hnt [] [] [] [0, 3] (by kernel_rfl) (G := fun K => ((↑l.length : Int) = (↑l.length : Int) ∧ (0 : Int) ≤ (↑l.length : Int) ∧ (↑l.length : Int) * (↑32 : Int) ≤ (2 : Int) ^ 47) ∧ K (St.mk [(0, V.d (D.lst l.length (i64s l))), (3, V.own 3 0 (↑l.length : Int).toNat 2)] [(3, some (Blk.mk (zeros (↑l.length : Int).toNat (TI.mk (Kind.struct [(0, 1), (1, 1)]) 2 32 [D.bool false, D.lst 0 []]).zero) true))] 5)) (fun K => by kernel_rfl) ?_
  refine ⟨by omega, ?_⟩
  refine awp_cut (ι := Unit) (fun _ => ⟨[(3, .own 0 0 l.length 2)], [(0, some ⟨rc (mz F l.length), true⟩)], 1⟩) (fun _ => True) ?_ ?_
  · refine awp_sx prog_ok hP hnt [] [] [] [3, 9, 10, 11] (by kernel_rfl) (G := fun K => K (St.mk [(3, V.own 3 0 (↑l.length : Int).toNat 2), (9, V.d (D.lst l.length (i64s l))), (10, V.d (D.int IntKind.i64 (↑l.length : Int))), (11, V.d (D.int IntKind.i64 (0 : Int)))] [(3, some (Blk.mk (zeros (↑l.length : Int).toNat (TI.mk (Kind.struct [(0, 1), (1, 1)]) 2 32 [D.bool false, D.lst 0 []]).zero) true))] 8)) (fun K => by kernel_rfl) ?_
    refine awp_block ?_
    refine awp_loop (ι := Nat) (fun i => ⟨[(3, .own 0 0 l.length 2), (9, .d (.lst l.length (i64s l))), (10, .d (.int .i64 l.length)), (11, .d (.int .i64 i))], [(0, some ⟨rc (mz (part F i) l.length), true⟩)], 1⟩)
      (fun i => i ≤ l.length) (fun i => l.length - i) 0 [(0, 3)] (by simp) ?_ ?_
    · constructor <;> simp [hl, envOk, memOk, conv, St.get, St.blk, zeros_rc, part_zero]
    intro i hi
    refine awp_sx prog_ok hP hnt [] [] [] [3, 9, 10, 11, 12] (by kernel_rfl) (G := fun K => K (St.mk [(3, V.own 0 0 l.length 2), (9, V.d (D.lst l.length (i64s l))), (10, V.d (D.int IntKind.i64 (↑l.length : Int))), (11, V.d (D.int IntKind.i64 (↑i : Int))), (12, V.d (D.bool (decide ((↑i : Int) < (↑l.length : Int)))))] [(0, some (Blk.mk (rc (mz (part F i) l.length)) true))] 2)) (fun K => by kernel_rfl) ?_
    refine awp_seq_k fun K1 hK1 => ?_
    refine awp_cond rfl (fun h => awp_skip (hK1 _ ?_)) (fun h => awp_exit ⟨(), [(0, 0)], trivial, ?_⟩)
    · simp at h
      obtain ⟨z, hz⟩ := get_ex (l := l) (i := i) (by omega)
      have hzF : F i = z := by rw [hF]; simp only; rw [List.getD_eq_getElem?_getD, hz]; rfl
      have hz64 := hl64 z (List.mem_of_getElem? hz)
      refine awp_seq_k fun K2 hK2 => ?_
      refine awp_block ?_
      refine awp_sx prog_ok hP hnt [] [] [some [.int .i64 z]] [3, 4, 5, 9, 10, 11] (by kernel_rfl) (G := fun K => ((0 : Int) ≤ (↑i : Int) ∧ (↑i : Int) < (↑l.length : Int) ∧ ((↑i : Int).toNat + 1) * 1 ≤ (i64s l).length) ∧ (List.drop ((↑i : Int).toNat * 1) (i64s l))[0]? = some (D.int IntKind.i64 z) ∧ K (St.mk [(3, V.own 0 0 l.length 2), (9, V.d (D.lst l.length (i64s l))), (10, V.d (D.int IntKind.i64 (↑l.length : Int))), (11, V.d (D.int IntKind.i64 (↑i : Int))), (4, V.d (D.int IntKind.i64 (↑i : Int))), (5, V.d (D.int IntKind.i64 z))] [(0, some (Blk.mk (rc (mz (part F i) l.length)) true))] 7)) (fun K => by kernel_rfl) ?_
      refine ⟨⟨by omega, by omega, by simp; omega⟩, by simp [hz], ?_⟩
      refine awp_x prog_ok hP hnt [] [.val (.agg (iz z))] [] [3, 9, 10, 11] (by kernel_rfl) (G := fun K => Fn Try.prog 74 [V.d (D.int IntKind.i64 z)] [] (V.agg [D.bool (decide (z < (0 : Int))), du (dig z.natAbs)]) [] ∧ ((0 : Int) ≤ (↑i : Int) ∧ (↑i : Int) < (↑l.length : Int)) ∧ 0 + (↑i : Int).toNat * 2 + (iz z).length ≤ (rc (mz (part F i) l.length)).length ∧ K (St.mk [(3, V.own 0 0 l.length 2), (9, V.d (D.lst l.length (i64s l))), (10, V.d (D.int IntKind.i64 (↑l.length : Int))), (11, V.d (D.int IntKind.i64 (↑i : Int)))] [(0, some (Blk.mk (setCells (rc (mz (part F i) l.length)) (0 + (↑i : Int).toNat * 2) (iz z)) true))] 13)) (fun K => by kernel_rfl) ?_
      have hsc := setCells_rc (mz (part F i) l.length) i (riz (F i))
      rw [part_set, ic_riz, hzF] at hsc
      refine ⟨iOf_fn z hz64.1 hz64.2, ⟨by omega, by omega⟩, ?_, hK2 _ ?_⟩
      · rw [rc_len, mz_len, Int.toNat_natCast, Nat.zero_add]; show i * 2 + 2 ≤ l.length * 2; omega
      refine awp_x prog_ok hP hnt [(21, .int .i64 (i + 1 : Nat))] [] [] [3, 9, 10, 11] (by kernel_rfl) (G := fun K => IntKind.i64.wrap ((↑i : Int) + (1 : Int)) = (↑(i + 1) : Int) ∧ K (St.mk [(3, V.own 0 0 l.length 2), (9, V.d (D.lst l.length (i64s l))), (10, V.d (D.int IntKind.i64 (↑l.length : Int))), (11, V.d (D.int IntKind.i64 (↑(i + 1) : Int)))] [(0, some (Blk.mk (setCells (rc (mz (part F i) l.length)) (0 + (↑i : Int).toNat * 2) (iz z)) true))] 15)) (fun K => by kernel_rfl) ?_
      refine ⟨by rw [w64] <;> omega, i + 1, [(0, 0)], ⟨by omega, by omega⟩, ?_⟩
      rw [Int.toNat_natCast, Nat.zero_add, hsc]
      constructor <;> simp [hl, envOk, memOk, conv, St.get, St.blk]
    · simp at h
      have : i = l.length := by omega
      subst this
      constructor <;> simp [hl, envOk, memOk, conv, St.get, St.blk, part_all]
  intro _ _
  have hpok : Pok 2 (mz F l.length) := fun p hp => by
    simp only [mz, List.mem_map] at hp
    obtain ⟨k, hk, rfl⟩ := hp
    refine riz_i64 ?_
    obtain ⟨z, hz⟩ := get_ex (l := l) (i := k) (by simpa using hk)
    rw [hF]; simp only; rw [List.getD_eq_getElem?_getD, hz]
    exact hl64 z (List.mem_of_getElem? hz)
  have ht := utrim_fn (mz F l.length) (by simp; omega) (pok_mono (by omega) hpok)
  rw [rtrim_mz] at ht
  refine awp_sx prog_ok hP hnt [] [.val (.d (rp (can F l.length)))] [] [2] (by kernel_rfl) (G := fun K => Fn Try.prog 161 [V.d (D.lst l.length (List.take (l.length * 2) (List.drop 0 (rc (mz F l.length)))))] [] (V.d (rp (can F l.length))) [] ∧ K (St.mk [(2, V.d (rp (can F l.length)))] [(0, some (Blk.mk (rc (mz F l.length)) false))] 4)) (fun K => by kernel_rfl) ?_
  refine ⟨?_, awp_ret ⟨.inl rfl, retD rfl⟩⟩
  rw [own_rp (by simp)]
  exact ht
end Go.Abs

set_option linter.unusedVariables false
set_option linter.unusedSimpArgs false
namespace Go.Abs
open Go Go.Proofs
set_option maxRecDepth 100000

def few (a b : Nat) (ps : List RI) : Bool := decide (ps.length ≤ a ∧ ∀ p ∈ ps, p.2.length ≤ b)

theorem few_fn (a b : Nat) (ps : List RI) (ha : a ≤ 2 ^ 40) (hb : b ≤ 2 ^ 40) : Fn Try.prog 39 [.d (.int .i64 a), .d (.int .i64 b), .d (rp ps)] [] (.d (.bool (few a b ps))) [] := by
  refine fn0 (nt := 26) (res := [.tmp 6]) Try.func39 rfl (by decide) rfl rfl rfl rfl ?_
  intro C hP hnt hl
  refine awp_sx prog_ok hP hnt [] [] [] [0, 1, 2] (by kernel_rfl) (G := fun K => K (St.mk [(0, V.d (D.int IntKind.i64 (↑a : Int))), (1, V.d (D.int IntKind.i64 (↑b : Int))), (2, V.d (rp ps))] [] 1)) (fun K => by kernel_rfl) ?_
  refine awp_seq_k fun K hK => ?_
  refine awp_sx prog_ok hP hnt [] [] [] [1, 2, 11] (by kernel_rfl) (G := fun K => K (St.mk [(1, V.d (D.int IntKind.i64 (↑b : Int))), (2, V.d (rp ps)), (11, V.d (D.bool (decide ((↑ps.length : Int) > (↑a : Int)))))] [] 5)) (fun K => by kernel_rfl) ?_
  refine awp_cond rfl (fun h => ?_) (fun h => awp_skip (hK _ ?_))
  · simp at h
    refine awp_sx prog_ok hP hnt [] [] [] [6] (by kernel_rfl) (G := fun K => K (St.mk [(6, V.d (D.bool false))] [] 6)) (fun K => by kernel_rfl) ?_
    refine awp_ret ⟨.inl rfl, retD ?_⟩
    rw [few, decide_eq_false (by omega)]; rfl
  simp at h
  refine awp_cut (ι := Unit) (fun _ => ⟨[], [], 0⟩) (fun _ => few a b ps = true) ?_ ?_
  · refine awp_sx prog_ok hP hnt [] [] [] [1, 2, 7] (by kernel_rfl) (G := fun K => K (St.mk [(1, V.d (D.int IntKind.i64 (↑b : Int))), (2, V.d (rp ps)), (7, V.d (D.int IntKind.i64 (0 : Int)))] [] 6)) (fun K => by kernel_rfl) ?_
    refine awp_block ?_
    refine awp_loop (ι := Nat) (fun i => ⟨[(1, .d (.int .i64 b)), (2, .d (rp ps)), (7, .d (.int .i64 i))], [], 0⟩)
      (fun i => i ≤ ps.length ∧ ∀ k p, k < i → ps[k]? = some p → p.2.length ≤ b) (fun i => ps.length - i) 0 [] (by simp) ?_ ?_
    · constructor <;> simp [hl, envOk, memOk, conv, St.get, St.blk]
    intro i ⟨hi, hall⟩
    refine awp_seq_k fun K1 hK1 => ?_
    refine awp_sx prog_ok hP hnt [] [] [] [1, 2, 7, 15] (by kernel_rfl) (G := fun K => K (St.mk [(1, V.d (D.int IntKind.i64 (↑b : Int))), (2, V.d (rp ps)), (7, V.d (D.int IntKind.i64 (↑i : Int))), (15, V.d (D.bool (decide ((↑i : Int) < (↑ps.length : Int)))))] [] 4)) (fun K => by kernel_rfl) ?_
    refine awp_cond rfl (fun h => awp_skip (hK1 _ ?_)) (fun h => awp_exit ⟨(), [], ?_, ?_⟩)
    · simp at h
      obtain ⟨p, hp1⟩ := get_ex (l := ps) (i := i) (by omega)
      refine awp_seq_k fun K2 hK2 => ?_
      refine awp_block ?_
      refine awp_sx prog_ok hP hnt [] [] [some [du p.2]] [1, 2, 7, 25] (by kernel_rfl) (G := fun K => ((0 : Int) ≤ (↑i : Int) ∧ (↑i : Int) < (↑ps.length : Int) ∧ ((↑i : Int).toNat + 1) * 2 ≤ (rc ps).length) ∧ (List.drop 1 (List.drop ((↑i : Int).toNat * 2) (rc ps)))[0]? = some (du p.snd) ∧ K (St.mk [(1, V.d (D.int IntKind.i64 (↑b : Int))), (2, V.d (rp ps)), (7, V.d (D.int IntKind.i64 (↑i : Int))), (25, V.d (D.bool (decide ((↑p.snd.length : Int) > (↑b : Int)))))] [] 12)) (fun K => by kernel_rfl) ?_
      refine ⟨⟨by omega, by omega, by simp; omega⟩, by rw [Int.toNat_natCast, rc_at hp1]; rfl, ?_⟩
      refine awp_cond rfl (fun h2 => ?_) (fun h2 => awp_skip (hK2 _ ?_))
      · simp at h2
        refine awp_sx prog_ok hP hnt [] [] [] [6] (by kernel_rfl) (G := fun K => K (St.mk [(6, V.d (D.bool false))] [] 13)) (fun K => by kernel_rfl) ?_
        refine awp_ret ⟨.inl rfl, retD ?_⟩
        rw [few, decide_eq_false (fun hh => by have := hh.2 p (List.mem_of_getElem? hp1); omega)]; rfl
      · simp at h2
        refine awp_x prog_ok hP hnt [(17, .int .i64 (i + 1 : Nat))] [] [] [1, 2, 7] (by kernel_rfl) (G := fun K => IntKind.i64.wrap ((↑i : Int) + (1 : Int)) = (↑(i + 1) : Int) ∧ K (St.mk [(1, V.d (D.int IntKind.i64 (↑b : Int))), (2, V.d (rp ps)), (7, V.d (D.int IntKind.i64 (↑(i + 1) : Int)))] [] 15)) (fun K => by kernel_rfl) ?_
        refine ⟨by rw [w64] <;> omega, i + 1, [], ⟨⟨by omega, fun k q hk hq => ?_⟩, by omega⟩, ?_⟩
        · by_cases e : k = i
          · subst e; rw [hp1] at hq; cases hq; exact h2
          · exact hall k q (by omega) hq
        constructor <;> simp [hl, envOk, memOk, conv, St.get, St.blk]
    · simp at h
      refine decide_eq_true ⟨by omega, fun p hp => ?_⟩
      obtain ⟨k, hk, e⟩ := List.getElem_of_mem hp
      exact hall k p (by omega) (by rw [← e]; simp [hk])
    · constructor <;> simp [hl, envOk, memOk, conv, St.get, St.blk]
  intro _ hf
  refine awp_sx prog_ok hP hnt [] [] [] [6] (by kernel_rfl) (G := fun K => K (St.mk [(6, V.d (D.bool true))] [] 1)) (fun K => by kernel_rfl) ?_
  refine awp_ret ⟨.inl rfl, retD ?_⟩
  rw [hf]; rfl
end Go.Abs

set_option linter.unusedVariables false
set_option linter.unusedSimpArgs false
namespace Go.Abs
open Go Go.Proofs
set_option maxRecDepth 100000

theorem can_11 : can (fun k => ([1, 1] : List Int).getD k 0) 2 = [riz 1, riz 1] := by
  simp [can, zdeg, mz, List.range_succ]
theorem can_1m : can (fun k => ([1, -1] : List Int).getD k 0) 2 = [riz 1, riz (-1)] := by
  simp [can, zdeg, mz, List.range_succ]
theorem can_awake : can (mulC (co [riz 1, riz 1]) (co [riz 1, riz (-1)]) 2) 4 = [riz 1, riz 0, riz (-1)] := by
  have c0 : co [riz 1, riz 1] 0 = 1 := rval_riz 1
  have c1 : co [riz 1, riz 1] 1 = 1 := rval_riz 1
  have d0 : co [riz 1, riz (-1)] 0 = 1 := rval_riz 1
  have d1 : co [riz 1, riz (-1)] 1 = -1 := rval_riz (-1)
  have d2 : co [riz 1, riz (-1)] 2 = 0 := rfl
  have d3 : co [riz 1, riz (-1)] 3 = 0 := rfl
  simp [can, zdeg, mz, mulC, List.range_succ, c0, c1, d0, d1, d2, d3]

theorem awake_fn : Fn Try.prog 38 [] [] (.d (.bool true)) [] := by
  refine fn0 (nt := 30) (res := [.tmp 0]) Try.func38 rfl (by decide) rfl rfl rfl rfl ?_
  intro C hP hnt hl
  have h1 := uof_fn [1, 1] (by simp) (by intro d hd; simp at hd; omega)
  have h2 := uof_fn [1, -1] (by simp) (by intro d hd; simp at hd; omega)
  have h3 := umul_fn 2 [riz 1, riz 1] [riz 1, riz (-1)] (by omega) (by simp) (by simp)
    (by intro p hp; simp at hp; subst hp; exact riz_i64 (by omega)) (by intro p hp; simp at hp; rcases hp with rfl | rfl <;> exact riz_i64 (by omega))
  have e1 : can (fun k => ([1, 1] : List Int).getD k 0) ([1, 1] : List Int).length = [riz 1, riz 1] := can_11
  have e2 : can (fun k => ([1, -1] : List Int).getD k 0) ([1, -1] : List Int).length = [riz 1, riz (-1)] := can_1m
  have e3 : can (mulC (co [riz 1, riz 1]) (co [riz 1, riz (-1)]) [riz 1, riz 1].length) ([riz 1, riz 1].length + [riz 1, riz (-1)].length) = [riz 1, riz 0, riz (-1)] := can_awake
  rw [e1] at h1
  rw [e2] at h2
  rw [e3] at h3
  refine awp_sx prog_ok hP hnt [] [] [] [] (by kernel_rfl) (G := fun K => K (St.mk [] [] 1)) (fun K => by kernel_rfl) ?_
  refine awp_sx prog_ok hP hnt [] [.val (.d (rp [riz 1, riz 1])), .val (.d (rp [riz 1, riz (-1)])), .val (.d (rp [riz 1, riz 0, riz (-1)]))] [] [1] (by kernel_rfl) (G := fun K => Fn Try.prog 51 [V.d (D.lst 2 [D.int IntKind.i64 (1 : Int), D.int IntKind.i64 (1 : Int)])] [] (V.d (rp [riz (1 : Int), riz (1 : Int)])) [] ∧ Fn Try.prog 51 [V.d (D.lst 2 [D.int IntKind.i64 (1 : Int), D.int IntKind.i64 (-1 : Int)])] [] (V.d (rp [riz (1 : Int), riz (-1 : Int)])) [] ∧ Fn Try.prog 44 [V.d (rp [riz (1 : Int), riz (1 : Int)]), V.d (rp [riz (1 : Int), riz (-1 : Int)])] [] (V.d (rp [riz (1 : Int), riz (0 : Int), riz (-1 : Int)])) [] ∧ K (St.mk [(1, V.d (rp [riz (1 : Int), riz (0 : Int), riz (-1 : Int)]))] [] 7)) (fun K => by kernel_rfl) ?_
  refine ⟨h1, h2, h3, ?_⟩
  have hm1 : RIok 2 (riz (-1)) := riz_i64 (by omega)
  have h0 : RIok 2 (riz 0) := riz_i64 (by omega)
  have hs := same_fn (riz (-1)).1 (riz (-1)).1 (riz (-1)).2 (riz (-1)).2 (Nat.le_trans hm1.2 (by omega)) (Nat.le_trans hm1.2 (by omega)) hm1.1 hm1.1
  rw [decide_eq_true rfl] at hs
  have hg := sign_fn (riz 0).1 (riz 0).2 (Nat.le_trans h0.2 (by omega)) h0.1
  rw [show ival (riz 0).1 (riz 0).2 = 0 from rval_riz 0] at hg
  refine awp_sx prog_ok hP hnt [(10, .bool true), (17, .bool true)] [.val (.agg (iz (-1))), .val (.d (.bool true)), .val (.d (.int .i64 0))] [some (iz (-1)), some (iz 0), some [.bool true]] [0] (by kernel_rfl) (G := fun K => ((↑[riz (1 : Int), riz (0 : Int), riz (-1 : Int)].length : Int) == (3 : Int)) = true ∧ ((0 : Int) ≤ (2 : Int) ∧ (2 : Int) < (↑[riz (1 : Int), riz (0 : Int), riz (-1 : Int)].length : Int) ∧ 6 ≤ (rc [riz (1 : Int), riz (0 : Int), riz (-1 : Int)]).length) ∧ ((List.drop 4 (rc [riz (1 : Int), riz (0 : Int), riz (-1 : Int)]))[0]? = some (D.bool (decide ((-1 : Int) < (0 : Int)))) ∧ (List.drop 4 (rc [riz (1 : Int), riz (0 : Int), riz (-1 : Int)]))[1]? = some (du (dig (-1 : Int).natAbs))) ∧ Fn Try.prog 74 [V.d (D.int IntKind.i64 (-1 : Int))] [] (V.agg [D.bool (decide ((-1 : Int) < (0 : Int))), du (dig (-1 : Int).natAbs)]) [] ∧ Fn Try.prog 122 [V.agg [D.bool (decide ((-1 : Int) < (0 : Int))), du (dig (-1 : Int).natAbs)], V.agg [D.bool (decide ((-1 : Int) < (0 : Int))), du (dig (-1 : Int).natAbs)]] [] (V.d (D.bool true)) [] ∧ true = true ∧ ((0 : Int) ≤ (1 : Int) ∧ (1 : Int) < (↑[riz (1 : Int), riz (0 : Int), riz (-1 : Int)].length : Int) ∧ 4 ≤ (rc [riz (1 : Int), riz (0 : Int), riz (-1 : Int)]).length) ∧ ((List.drop 2 (rc [riz (1 : Int), riz (0 : Int), riz (-1 : Int)]))[0]? = some (D.bool (decide ((0 : Int) < (0 : Int)))) ∧ (List.drop 2 (rc [riz (1 : Int), riz (0 : Int), riz (-1 : Int)]))[1]? = some (du (dig (Int.natAbs (0 : Int))))) ∧ Fn Try.prog 102 [V.agg [D.bool (decide ((0 : Int) < (0 : Int))), du (dig (Int.natAbs (0 : Int)))]] [] (V.d (D.int IntKind.i64 (0 : Int))) [] ∧ ((0 : Int) ≤ (2 : Int) ∧ (2 : Int) < (↑[riz (1 : Int), riz (0 : Int), riz (-1 : Int)].length : Int) ∧ 6 ≤ (rc [riz (1 : Int), riz (0 : Int), riz (-1 : Int)]).length) ∧ (List.drop 0 (List.drop 4 (rc [riz (1 : Int), riz (0 : Int), riz (-1 : Int)])))[0]? = some (D.bool true) ∧ K (St.mk [(0, V.d (D.bool true))] [] 31)) (fun K => by kernel_rfl) ?_
  exact ⟨rfl, ⟨by omega, by simp, by simp⟩, ⟨rfl, rfl⟩, iOf_fn (-1) (by omega) (by omega), hs, rfl, ⟨by omega, by simp, by simp⟩, ⟨rfl, rfl⟩, hg, ⟨by omega, by simp, by simp⟩, rfl, awp_ret ⟨.inl rfl, retD rfl⟩⟩
end Go.Abs

set_option linter.unusedVariables false
set_option linter.unusedSimpArgs false
namespace Go.Abs

/-! ### The Cauchy product of two sequences -/
def cv (f g : Nat → Int) : Nat → Int
  | 0 => f 0 * g 0
  | k + 1 => f 0 * g (k + 1) + cv (fun i => f (i + 1)) g k

theorem cv_right (f g : Nat → Int) (k : Nat) : cv f g (k + 1) = cv f (fun i => g (i + 1)) k + f (k + 1) * g 0 := by
  induction k generalizing f with
  | zero => simp only [cv]
  | succ k ih =>
    rw [cv, ih, cv]
    omega
theorem cv_comm (f g : Nat → Int) (k : Nat) : cv f g k = cv g f k := by
  induction k generalizing f g with
  | zero => simp only [cv]; exact Int.mul_comm _ _
  | succ k ih =>
    rw [cv, cv_right, ih, Int.mul_comm]; omega
theorem cv_ext {f f' g g' : Nat → Int} (hf : ∀ k, f k = f' k) (hg : ∀ k, g k = g' k) (k : Nat) : cv f g k = cv f' g' k := by
  rw [funext hf, funext hg]
theorem cv_add (f g h : Nat → Int) (k : Nat) : cv (fun i => f i + g i) h k = cv f h k + cv g h k := by
  induction k generalizing f g with
  | zero => simp only [cv]; exact Int.add_mul _ _ _
  | succ k ih => simp only [cv]; rw [ih, Int.add_mul]; omega
theorem cv_scale (c : Int) (f h : Nat → Int) (k : Nat) : cv (fun i => c * f i) h k = c * cv f h k := by
  induction k generalizing f with
  | zero => simp only [cv]; rw [Int.mul_assoc]
  | succ k ih => simp only [cv]; rw [ih, Int.mul_add, Int.mul_assoc]
theorem cv_add_right (f g h : Nat → Int) (k : Nat) : cv f (fun i => g i + h i) k = cv f g k + cv f h k := by
  rw [cv_comm, cv_add, cv_comm g, cv_comm h]
theorem cv_assoc (f g h : Nat → Int) (k : Nat) : cv (cv f g) h k = cv f (cv g h) k := by
  induction k generalizing f with
  | zero => simp only [cv]; exact Int.mul_assoc _ _ _
  | succ k ih =>
    have e : (fun i => cv f g (i + 1)) = fun i => f 0 * g (i + 1) + cv (fun i => f (i + 1)) g i := rfl
    rw [cv, e, cv_add, cv_scale (f 0) (fun i => g (i + 1)) h, ih]
    simp only [cv]
    rw [Int.mul_add, Int.mul_assoc]; omega
end Go.Abs

set_option linter.unusedVariables false
set_option linter.unusedSimpArgs false
namespace Go.Abs
open Go Go.Proofs

theorem mulC_succ0 (f g : Nat → Int) (n : Nat) : mulC f g (n + 1) 0 = f 0 * g 0 := by
  induction n with
  | zero => simp [mulC]
  | succ n ih => rw [mulC, ih, if_neg (by omega)]; omega
theorem mulC_succ (f g : Nat → Int) (n k : Nat) : mulC f g (n + 1) (k + 1) = f 0 * g (k + 1) + mulC (fun i => f (i + 1)) g n k := by
  induction n with
  | zero => simp [mulC]
  | succ n ih =>
    rw [mulC, ih]
    simp only [mulC]
    rw [show k + 1 - (n + 1) = k - n by omega]
    by_cases h : n ≤ k
    · rw [if_pos (by omega), if_pos h]; omega
    · rw [if_neg (by omega), if_neg h]; omega
theorem cv_zero {f g : Nat → Int} (h : ∀ a, f a = 0) (k : Nat) : cv f g k = 0 := by
  induction k generalizing f with
  | zero => simp [cv, h]
  | succ k ih => rw [cv, ih (fun a => h _), h]; simp
theorem mulC_cv {f g : Nat → Int} {n : Nat} (h : ∀ a, n ≤ a → f a = 0) (k : Nat) : mulC f g n k = cv f g k := by
  induction k generalizing f n with
  | zero =>
    cases n with
    | zero => rw [cv_zero (fun a => h a (by omega))]; rfl
    | succ n => rw [mulC_succ0]; rfl
  | succ k ih =>
    cases n with
    | zero => rw [cv_zero (fun a => h a (by omega))]; rfl
    | succ n => rw [mulC_succ, cv, ih (fun a ha => h _ (by omega))]
theorem cv_van {f g : Nat → Int} {n m k : Nat} (hf : ∀ a, n ≤ a → f a = 0) (hg : ∀ a, m ≤ a → g a = 0) (h : n + m ≤ k + 1) : cv f g k = 0 := by
  rw [← mulC_cv hf]; exact mulC_van hg h
theorem co_can {F : Nat → Int} {n : Nat} (h : ∀ k, n ≤ k → F k = 0) (k : Nat) : co (can F n) k = F k := by
  rw [← rtrim_mz, co_rtrim]
  by_cases hk : k < n
  · exact co_mz hk
  · rw [co_beyond (by simpa using hk), h k (by omega)]
/-- the product and the sum, as a whole -/
theorem umul_co (ps qs : List RI) (k : Nat) : co (can (mulC (co ps) (co qs) ps.length) (ps.length + qs.length)) k = cv (co ps) (co qs) k := by
  have e : ∀ k, mulC (co ps) (co qs) ps.length k = cv (co ps) (co qs) k := mulC_cv fun a ha => co_beyond ha
  rw [co_can]
  · exact e k
  · intro k hk; exact mulC_van (fun a ha => co_beyond ha) (by omega)
theorem uadd_co (ps qs : List RI) (k : Nat) : co (can (fun k => co ps k + co qs k) (max ps.length qs.length)) k = co ps k + co qs k := by
  rw [co_can]
  intro k hk
  show co ps k + co qs k = 0
  rw [co_beyond (by omega), co_beyond (by omega)]; rfl
theorem usub_co (ps qs : List RI) (k : Nat) : co (can (fun k => co ps k - co qs k) (max ps.length qs.length)) k = co ps k - co qs k := by
  rw [co_can]
  intro k hk
  show co ps k - co qs k = 0
  rw [co_beyond (by omega), co_beyond (by omega)]; rfl
end Go.Abs

set_option linter.unusedVariables false
set_option linter.unusedSimpArgs false
namespace Go.Abs
open Go Go.Proofs
set_option maxRecDepth 100000

def pm (ps qs : List RI) : List RI := can (mulC (co ps) (co qs) ps.length) (ps.length + qs.length)
def pa (ps qs : List RI) : List RI := can (fun k => co ps k + co qs k) (max ps.length qs.length)
def pd (ps qs : List RI) : List RI := can (fun k => co ps k - co qs k) (max ps.length qs.length)
/-- at most n coefficients of at most K digits -/
def Sz (n K : Nat) (ps : List RI) : Prop := ps.length ≤ n ∧ Pok K ps
theorem pm_co (ps qs : List RI) (k : Nat) : co (pm ps qs) k = cv (co ps) (co qs) k := umul_co ps qs k
theorem pa_co (ps qs : List RI) (k : Nat) : co (pa ps qs) k = co ps k + co qs k := uadd_co ps qs k
theorem pd_co (ps qs : List RI) (k : Nat) : co (pd ps qs) k = co ps k - co qs k := usub_co ps qs k
theorem Sz.mono {n m K L : Nat} {ps : List RI} (h : Sz n K ps) (hn : n ≤ m) (hK : K ≤ L) : Sz m L ps := ⟨Nat.le_trans h.1 hn, pok_mono hK h.2⟩
theorem pm_sz {n K : Nat} {ps qs : List RI} (hn : n ≤ 2 ^ 30) (hp : Sz n K ps) (hq : Sz n K qs) : Sz (n + n) (K + K + 1) (pm ps qs) := by
  refine ⟨Nat.le_trans (can_len _ _) (Nat.add_le_add hp.1 hq.1), can_ok fun k => ?_⟩
  exact Nat.lt_of_le_of_lt (mulC_abs (fun a => Nat.le_of_lt (co_abs hp.2 a)) (fun a => Nat.le_of_lt (co_abs hq.2 a)) _ _) (mul_bound (by have := hp.1; omega) (Nat.le_refl _))
theorem pa_sz {n K : Nat} {ps qs : List RI} (hp : Sz n K ps) (hq : Sz n K qs) : Sz n (K + 1) (pa ps qs) :=
  ⟨Nat.le_trans (can_len _ _) (Nat.max_le.2 ⟨hp.1, hq.1⟩), can_ok fun k => (add_small (co_abs hp.2 k) (co_abs hq.2 k)).1⟩
theorem pd_sz {n K : Nat} {ps qs : List RI} (hp : Sz n K ps) (hq : Sz n K qs) : Sz n (K + 1) (pd ps qs) :=
  ⟨Nat.le_trans (can_len _ _) (Nat.max_le.2 ⟨hp.1, hq.1⟩), can_ok fun k => (add_small (co_abs hp.2 k) (co_abs hq.2 k)).2⟩
theorem pm_fn {n K : Nat} {ps qs : List RI} (hn : n ≤ 2 ^ 30) (hK : K ≤ 2 ^ 30) (hp : Sz n K ps) (hq : Sz n K qs) : Fn Try.prog 44 [.d (rp ps), .d (rp qs)] [] (.d (rp (pm ps qs))) [] :=
  umul_fn K ps qs (by omega) (by have := hp.1; omega) (by have := hq.1; omega) hp.2 hq.2
theorem pa_fn {n K : Nat} {ps qs : List RI} (hn : n ≤ 2 ^ 30) (hK : K ≤ 2 ^ 30) (hp : Sz n K ps) (hq : Sz n K qs) : Fn Try.prog 48 [.d (rp ps), .d (rp qs)] [] (.d (rp (pa ps qs))) [] :=
  uadd_fn K ps qs (by omega) (by have := hp.1; omega) (by have := hq.1; omega) hp.2 hq.2
theorem pd_fn {n K : Nat} {ps qs : List RI} (hn : n ≤ 2 ^ 30) (hK : K ≤ 2 ^ 30) (hp : Sz n K ps) (hq : Sz n K qs) : Fn Try.prog 50 [.d (rp ps), .d (rp qs)] [] (.d (rp (pd ps qs))) [] :=
  usub_fn K ps qs (by omega) (by have := hp.1; omega) (by have := hq.1; omega) hp.2 hq.2
theorem psame_fn {n K : Nat} {ps qs : List RI} (hn : n ≤ 2 ^ 40) (hK : K ≤ 2 ^ 40) (hp : Sz n K ps) (hq : Sz n K qs) (h : ∀ k, co ps k = co qs k) : Fn Try.prog 49 [.d (rp ps), .d (rp qs)] [] (.d (.bool true)) [] := by
  have := usame_fn ps qs (by have := hp.1; omega) (by have := hq.1; omega) (pok_mono hK hp.2) (pok_mono hK hq.2)
  rw [show (cmpP ps qs == 0) = true by simpa using cmpP_zero.2 h] at this
  exact this
theorem few_sz {a b : Nat} {ps : List RI} (hd : ∀ p ∈ ps, Dg p.2) (h : few a b ps = true) : Sz a b ps := by
  have := of_decide_eq_true h
  exact ⟨this.1, fun p hp => ⟨hd p hp, this.2 p hp⟩⟩
end Go.Abs

set_option linter.unusedVariables false
set_option linter.unusedSimpArgs false
namespace Go.Abs
open Go Go.Proofs
set_option maxRecDepth 100000

theorem cv_one {f g : Nat → Int} (h0 : g 0 = 1) (h1 : ∀ k, g (k + 1) = 0) (k : Nat) : cv f g k = f k := by
  rw [cv_comm]
  cases k with
  | zero => rw [cv, h0, Int.one_mul]
  | succ k => rw [cv, h0, cv_zero h1]; omega
theorem pd_self (ps : List RI) : pd ps ps = [] := can_none fun k _ => by show co ps k - co ps k = 0; omega
theorem can_1 : can (fun k => ([1] : List Int).getD k 0) 1 = [riz 1] := by
  simp [can, zdeg, mz, List.range_succ]

theorem ring_fn (a b c : List RI) (da : ∀ p ∈ a, Dg p.2) (db : ∀ p ∈ b, Dg p.2) (dc : ∀ p ∈ c, Dg p.2) :
    Fn Try.prog 4 [.d (rp a), .d (rp b), .d (rp c)] [] (.d (.bool true)) [] := by
  refine fn0 (nt := 92) (res := [.tmp 6]) Try.func4 rfl (by decide) rfl rfl rfl rfl ?_
  intro C hP hnt hl
  have fa := few_fn 6 2 a (by omega) (by omega)
  have fb := few_fn 6 2 b (by omega) (by omega)
  have fc := few_fn 6 2 c (by omega) (by omega)
  refine awp_sx prog_ok hP hnt [] [] [] [0, 1, 2] (by kernel_rfl) (G := fun K => K (St.mk [(0, V.d (rp a)), (1, V.d (rp b)), (2, V.d (rp c))] [] 1)) (fun K => by kernel_rfl) ?_
  refine awp_cut (ι := Unit) (fun _ => ⟨[(0, .d (rp a)), (1, .d (rp b)), (2, .d (rp c))], [], 0⟩) (fun _ => few 6 2 a = true ∧ few 6 2 b = true ∧ few 6 2 c = true) ?_ ?_
  · cases ea : few 6 2 a with
    | false =>
      rw [ea] at fa
      refine awp_sx prog_ok hP hnt [(11, .bool false), (16, .bool true), (21, .bool true)] [.val (.d (.bool true)), .val (.d (.bool false))] [] [0, 1, 2, 25] (by kernel_rfl) (G := fun K => Fn Try.prog 38 [] [] (V.d (D.bool true)) [] ∧ (!true) = false ∧ Fn Try.prog 39 [V.d (D.int IntKind.i64 (6 : Int)), V.d (D.int IntKind.i64 (2 : Int)), V.d (rp a)] [] (V.d (D.bool false)) [] ∧ (!false) = true ∧ true = true ∧ K (St.mk [(0, V.d (rp a)), (1, V.d (rp b)), (2, V.d (rp c)), (25, V.d (D.bool true))] [] 18)) (fun K => by kernel_rfl) ?_
      refine ⟨awake_fn, rfl, fa, rfl, rfl, awp_cond (b := true) rfl (fun _ => ?_) nofun⟩
      refine awp_sx prog_ok hP hnt [] [.val (.d (.bool true))] [] [6] (by kernel_rfl) (G := fun K => Fn Try.prog 38 [] [] (V.d (D.bool true)) [] ∧ K (St.mk [(6, V.d (D.bool true))] [] 20)) (fun K => by kernel_rfl) ?_
      exact ⟨awake_fn, awp_ret ⟨.inl rfl, retD rfl⟩⟩
    | true =>
      rw [ea] at fa
      cases eb : few 6 2 b with
      | false =>
        rw [eb] at fb
        refine awp_sx prog_ok hP hnt [(11, .bool false), (16, .bool false), (21, .bool true)] [.val (.d (.bool true)), .val (.d (.bool true)), .val (.d (.bool false))] [] [0, 1, 2, 25] (by kernel_rfl) (G := fun K => Fn Try.prog 38 [] [] (V.d (D.bool true)) [] ∧ (!true) = false ∧ Fn Try.prog 39 [V.d (D.int IntKind.i64 (6 : Int)), V.d (D.int IntKind.i64 (2 : Int)), V.d (rp a)] [] (V.d (D.bool true)) [] ∧ (!true) = false ∧ Fn Try.prog 39 [V.d (D.int IntKind.i64 (6 : Int)), V.d (D.int IntKind.i64 (2 : Int)), V.d (rp b)] [] (V.d (D.bool false)) [] ∧ (!false) = true ∧ K (St.mk [(0, V.d (rp a)), (1, V.d (rp b)), (2, V.d (rp c)), (25, V.d (D.bool true))] [] 18)) (fun K => by kernel_rfl) ?_
        refine ⟨awake_fn, rfl, fa, rfl, fb, rfl, awp_cond (b := true) rfl (fun _ => ?_) nofun⟩
        refine awp_sx prog_ok hP hnt [] [.val (.d (.bool true))] [] [6] (by kernel_rfl) (G := fun K => Fn Try.prog 38 [] [] (V.d (D.bool true)) [] ∧ K (St.mk [(6, V.d (D.bool true))] [] 20)) (fun K => by kernel_rfl) ?_
        exact ⟨awake_fn, awp_ret ⟨.inl rfl, retD rfl⟩⟩
      | true =>
        rw [eb] at fb
        refine awp_sx prog_ok hP hnt [(11, .bool false), (16, .bool false), (21, .bool false)] [.val (.d (.bool true)), .val (.d (.bool true)), .val (.d (.bool true)), .val (.d (.bool (few 6 2 c)))] [] [0, 1, 2, 25] (by kernel_rfl) (G := fun K => Fn Try.prog 38 [] [] (V.d (D.bool true)) [] ∧ (!true) = false ∧ Fn Try.prog 39 [V.d (D.int IntKind.i64 (6 : Int)), V.d (D.int IntKind.i64 (2 : Int)), V.d (rp a)] [] (V.d (D.bool true)) [] ∧ (!true) = false ∧ Fn Try.prog 39 [V.d (D.int IntKind.i64 (6 : Int)), V.d (D.int IntKind.i64 (2 : Int)), V.d (rp b)] [] (V.d (D.bool true)) [] ∧ (!true) = false ∧ Fn Try.prog 39 [V.d (D.int IntKind.i64 (6 : Int)), V.d (D.int IntKind.i64 (2 : Int)), V.d (rp c)] [] (V.d (D.bool (few 6 2 c))) [] ∧ K (St.mk [(0, V.d (rp a)), (1, V.d (rp b)), (2, V.d (rp c)), (25, V.d (D.bool !few 6 2 c))] [] 18)) (fun K => by kernel_rfl) ?_
        refine ⟨awake_fn, rfl, fa, rfl, fb, rfl, fc, awp_cond rfl (fun h => ?_) (fun h => awp_skip ⟨(), [], ⟨rfl, rfl, by simpa using h⟩, ?_⟩)⟩
        · refine awp_sx prog_ok hP hnt [] [.val (.d (.bool true))] [] [6] (by kernel_rfl) (G := fun K => Fn Try.prog 38 [] [] (V.d (D.bool true)) [] ∧ K (St.mk [(6, V.d (D.bool true))] [] 20)) (fun K => by kernel_rfl) ?_
          exact ⟨awake_fn, awp_ret ⟨.inl rfl, retD rfl⟩⟩
        · constructor <;> simp [hl, envOk, memOk, conv, St.get, St.blk]
  intro _ ⟨ea, eb, ec⟩
  have sa := (few_sz da ea).mono (m := 6) (L := 2) (by omega) (by omega)
  have sb := (few_sz db eb).mono (m := 6) (L := 2) (by omega) (by omega)
  have sc := (few_sz dc ec).mono (m := 6) (L := 2) (by omega) (by omega)
  have big : ∀ {n K : Nat} {ps : List RI}, Sz n K ps → n ≤ 1000 → K ≤ 1000 → Sz 1000 1000 ps := fun h h1 h2 => h.mono h1 h2
  have ab := big (pm_sz (by omega) sa sb) (by omega) (by omega)
  have ba := big (pm_sz (by omega) sb sa) (by omega) (by omega)
  have ac := big (pm_sz (by omega) sa sc) (by omega) (by omega)
  have bc := big (pm_sz (by omega) sb sc) (by omega) (by omega)
  have b_c := big (pa_sz sb sc) (by omega) (by omega)
  have a_b := big (pa_sz sa sb) (by omega) (by omega)
  have s1 : Sz 1 2 [riz 1] := ⟨by simp, by intro p hp; simp at hp; subst hp; exact riz_i64 (by omega)⟩
  have sa' := big sa (by omega) (by omega)
  have sb' := big sb (by omega) (by omega)
  have sc' := big sc (by omega) (by omega)
  have s1' := big s1 (by omega) (by omega)
  have big2 : ∀ {n K : Nat} {ps : List RI}, Sz n K ps → n ≤ 10000 → K ≤ 10000 → Sz 10000 10000 ps := fun h h1 h2 => h.mono h1 h2
  have abc1 := big2 (pm_sz (by omega) sa' bc) (by omega) (by omega)
  have abc2 := big2 (pm_sz (by omega) ab sc') (by omega) (by omega)
  have l1 := big2 (pm_sz (by omega) sa' b_c) (by omega) (by omega)
  have r1 := big2 (pa_sz ab ac) (by omega) (by omega)
  have t1 := big2 (pa_sz sa' b_c) (by omega) (by omega)
  have t2 := big2 (pa_sz a_b sc') (by omega) (by omega)
  have a1 := big2 (pm_sz (by omega) sa' s1') (by omega) (by omega)
  have hof := uof_fn [1] (by simp) (by intro d hd; simp at hd; omega)
  rw [show can (fun k => ([1] : List Int).getD k 0) ([1] : List Int).length = [riz 1] from can_1] at hof
  have hsub := pd_fn (by omega) (by omega) sa sa
  rw [pd_self] at hsub
  have hfun : ∀ {x y : List RI}, co (pm x y) = cv (co x) (co y) := fun {x y} => funext (pm_co x y)
  have hfua : ∀ {x y : List RI}, co (pa x y) = fun k => co x k + co y k := fun {x y} => funext (pa_co x y)
  refine awp_sx prog_ok hP hnt [] [.val (.d (rp (pa b c))), .val (.d (rp (pm a (pa b c))))] [] [0, 1, 2, 7] (by kernel_rfl) (G := fun K => Fn Try.prog 48 [V.d (rp b), V.d (rp c)] [] (V.d (rp (pa b c))) [] ∧ Fn Try.prog 44 [V.d (rp a), V.d (rp (pa b c))] [] (V.d (rp (pm a (pa b c)))) [] ∧ K (St.mk [(0, V.d (rp a)), (1, V.d (rp b)), (2, V.d (rp c)), (7, V.d (rp (pm a (pa b c))))] [] 6)) (fun K => by kernel_rfl) ?_
  refine ⟨pa_fn (by omega) (by omega) sb sc, pm_fn (by omega) (by omega) sa' b_c, ?_⟩
  refine awp_sx prog_ok hP hnt [] [.val (.d (rp (pm a b))), .val (.d (rp (pm a c))), .val (.d (rp (pa (pm a b) (pm a c))))] [] [0, 1, 2, 7, 8] (by kernel_rfl) (G := fun K => Fn Try.prog 44 [V.d (rp a), V.d (rp b)] [] (V.d (rp (pm a b))) [] ∧ Fn Try.prog 44 [V.d (rp a), V.d (rp c)] [] (V.d (rp (pm a c))) [] ∧ Fn Try.prog 48 [V.d (rp (pm a b)), V.d (rp (pm a c))] [] (V.d (rp (pa (pm a b) (pm a c)))) [] ∧ K (St.mk [(0, V.d (rp a)), (1, V.d (rp b)), (2, V.d (rp c)), (7, V.d (rp (pm a (pa b c)))), (8, V.d (rp (pa (pm a b) (pm a c))))] [] 14)) (fun K => by kernel_rfl) ?_
  refine ⟨pm_fn (by omega) (by omega) sa sb, pm_fn (by omega) (by omega) sa sc, pa_fn (by omega) (by omega) ab ac, ?_⟩
  refine awp_sx prog_ok hP hnt [(84, .bool true)] [.val (.d (.bool true)), .val (.d (rp (pm a b))), .val (.d (rp (pm b a))), .val (.d (.bool true)), .val (.d (rp (pm b c))), .val (.d (rp (pm a (pm b c)))), .val (.d (rp (pm a b))), .val (.d (rp (pm (pm a b) c))), .val (.d (.bool true)), .val (.d (rp (pa b c))), .val (.d (rp (pa a (pa b c)))), .val (.d (rp (pa a b))), .val (.d (rp (pa (pa a b) c))), .val (.d (.bool true)), .val (.d (.lst 0 [])), .val (.d (rp [riz 1])), .val (.d (rp (pm a [riz 1]))), .val (.d (.bool true))] [] [6] (by kernel_rfl) (G := fun K => Fn Try.prog 49 [V.d (rp (pm a (pa b c))), V.d (rp (pa (pm a b) (pm a c)))] [] (V.d (D.bool true)) [] ∧ Fn Try.prog 44 [V.d (rp a), V.d (rp b)] [] (V.d (rp (pm a b))) [] ∧ Fn Try.prog 44 [V.d (rp b), V.d (rp a)] [] (V.d (rp (pm b a))) [] ∧ Fn Try.prog 49 [V.d (rp (pm a b)), V.d (rp (pm b a))] [] (V.d (D.bool true)) [] ∧ Fn Try.prog 44 [V.d (rp b), V.d (rp c)] [] (V.d (rp (pm b c))) [] ∧ Fn Try.prog 44 [V.d (rp a), V.d (rp (pm b c))] [] (V.d (rp (pm a (pm b c)))) [] ∧ Fn Try.prog 44 [V.d (rp a), V.d (rp b)] [] (V.d (rp (pm a b))) [] ∧ Fn Try.prog 44 [V.d (rp (pm a b)), V.d (rp c)] [] (V.d (rp (pm (pm a b) c))) [] ∧ Fn Try.prog 49 [V.d (rp (pm a (pm b c))), V.d (rp (pm (pm a b) c))] [] (V.d (D.bool true)) [] ∧ Fn Try.prog 48 [V.d (rp b), V.d (rp c)] [] (V.d (rp (pa b c))) [] ∧ Fn Try.prog 48 [V.d (rp a), V.d (rp (pa b c))] [] (V.d (rp (pa a (pa b c)))) [] ∧ Fn Try.prog 48 [V.d (rp a), V.d (rp b)] [] (V.d (rp (pa a b))) [] ∧ Fn Try.prog 48 [V.d (rp (pa a b)), V.d (rp c)] [] (V.d (rp (pa (pa a b) c))) [] ∧ Fn Try.prog 49 [V.d (rp (pa a (pa b c))), V.d (rp (pa (pa a b) c))] [] (V.d (D.bool true)) [] ∧ Fn Try.prog 50 [V.d (rp a), V.d (rp a)] [] (V.d (D.lst 0 [])) [] ∧ ((↑0 : Int) == (0 : Int)) = true ∧ Fn Try.prog 51 [V.d (D.lst 1 [D.int IntKind.i64 (1 : Int)])] [] (V.d (rp [riz (1 : Int)])) [] ∧ Fn Try.prog 44 [V.d (rp a), V.d (rp [riz (1 : Int)])] [] (V.d (rp (pm a [riz (1 : Int)]))) [] ∧ Fn Try.prog 49 [V.d (rp (pm a [riz (1 : Int)])), V.d (rp a)] [] (V.d (D.bool true)) [] ∧ K (St.mk [(6, V.d (D.bool true))] [] 68)) (fun K => by kernel_rfl) ?_
  have e1 : ∀ k, co (pm a (pa b c)) k = co (pa (pm a b) (pm a c)) k := fun k => by
    rw [pm_co, hfua, cv_add_right, pa_co, pm_co, pm_co]
  have e2 : ∀ k, co (pm a b) k = co (pm b a) k := fun k => by rw [pm_co, pm_co, cv_comm]
  have e3 : ∀ k, co (pm a (pm b c)) k = co (pm (pm a b) c) k := fun k => by rw [pm_co, pm_co, hfun, hfun, cv_assoc]
  have e4 : ∀ k, co (pa a (pa b c)) k = co (pa (pa a b) c) k := fun k => by simp only [pa_co]; omega
  have e5 : ∀ k, co (pm a [riz 1]) k = co a k := fun k => by
    rw [pm_co]
    exact cv_one (rval_riz 1) (fun k => co_beyond (by simp)) k
  exact ⟨psame_fn (by omega) (by omega) l1 r1 e1, pm_fn (by omega) (by omega) sa sb, pm_fn (by omega) (by omega) sb sa, psame_fn (by omega) (by omega) ab ba e2,
    pm_fn (by omega) (by omega) sb sc, pm_fn (by omega) (by omega) sa' bc, pm_fn (by omega) (by omega) sa sb, pm_fn (by omega) (by omega) ab sc', psame_fn (by omega) (by omega) abc1 abc2 e3,
    pa_fn (by omega) (by omega) sb sc, pa_fn (by omega) (by omega) sa' b_c, pa_fn (by omega) (by omega) sa sb, pa_fn (by omega) (by omega) a_b sc', psame_fn (by omega) (by omega) t1 t2 e4,
    hsub, rfl, hof, pm_fn (by omega) (by omega) sa' s1', psame_fn (by omega) (by omega) a1 (big2 sa (by omega) (by omega)) e5, awp_ret ⟨.inl rfl, retD rfl⟩⟩
end Go.Abs

set_option linter.unusedVariables false
set_option linter.unusedSimpArgs false
namespace Go.Abs

/-! ### Polynomials in one variable with whole coefficients -/
structure Poly where
  c : Nat → Int
  fin : ∃ n, ∀ k, n ≤ k → c k = 0
namespace Poly

theorem ext_c {f g : Poly} (h : ∀ k, f.c k = g.c k) : f = g := by
  obtain ⟨a, ha⟩ := f
  obtain ⟨b, hb⟩ := g
  have : a = b := funext h
  subst this
  rfl

def evn (c : Nat → Int) : Nat → Int → Int
  | 0, _ => 0
  | n + 1, x => c 0 + x * evn (fun k => c (k + 1)) n x
theorem evn_van {x : Int} : ∀ {n : Nat} {c : Nat → Int}, (∀ k, k < n → c k = 0) → evn c n x = 0
  | 0, c, _ => rfl
  | n + 1, c, h => by
    rw [evn, h 0 (by omega), evn_van (fun k hk => h (k + 1) (by omega))]; simp
theorem evn_more {x : Int} : ∀ {n m : Nat} {c : Nat → Int}, n ≤ m → (∀ k, n ≤ k → c k = 0) → evn c m x = evn c n x
  | 0, m, c, _, h => evn_van fun k _ => h k (by omega)
  | n + 1, 0, c, hm, _ => by omega
  | n + 1, m + 1, c, hm, h => by
    rw [evn, evn, evn_more (n := n) (by omega) fun k hk => h (k + 1) (by omega)]
theorem evn_same {x : Int} {n m : Nat} {c : Nat → Int} (hn : ∀ k, n ≤ k → c k = 0) (hm : ∀ k, m ≤ k → c k = 0) : evn c n x = evn c m x := by
  rcases Nat.le_total n m with h | h
  · exact (evn_more h hn).symm
  · exact evn_more h hm
theorem evn_add {x : Int} : ∀ (n : Nat) (c d : Nat → Int), evn (fun k => c k + d k) n x = evn c n x + evn d n x
  | 0, c, d => rfl
  | n + 1, c, d => by rw [evn, evn, evn, evn_add n]; grind
theorem evn_scale {x a : Int} : ∀ (n : Nat) (c : Nat → Int), evn (fun k => a * c k) n x = a * evn c n x
  | 0, c => by simp [evn]
  | n + 1, c => by rw [evn, evn, evn_scale n]; grind
theorem evn_mul {x : Int} {m : Nat} {d : Nat → Int} (hd : ∀ k, m ≤ k → d k = 0) : ∀ (n : Nat) (c : Nat → Int), (∀ k, n ≤ k → c k = 0) → ∀ N, n + m ≤ N → evn (cv c d) N x = evn c n x * evn d m x
  | 0, c, hc, N, hN => by
    rw [evn_van (fun k _ => ?_)]
    · simp [evn]
    · have h0 : ∀ a, c a = 0 := fun a => hc a (by omega)
      clear hc
      induction k generalizing c with
      | zero => simp [cv, h0]
      | succ k ih => rw [cv, h0, ih _ (by omega) (fun a => h0 _)]; simp
  | n + 1, c, hc, 0, hN => by omega
  | n + 1, c, hc, N + 1, hN => by
    have ih := evn_mul (x := x) hd n (fun k => c (k + 1)) (fun k hk => hc _ (by omega)) N (by omega)
    have e : evn d m x = d 0 + x * evn (fun k => d (k + 1)) N x := by
      rw [← evn_more (m := N + 1) (by omega) hd, evn]
    rw [evn]
    have e2 : (fun k => cv c d (k + 1)) = fun k => c 0 * d (k + 1) + cv (fun i => c (i + 1)) d k := rfl
    have e3 := evn_add (x := x) N (fun k => c 0 * d (k + 1)) (cv (fun i => c (i + 1)) d)
    have e4 := evn_scale (x := x) (a := c 0) N (fun k => d (k + 1))
    rw [e2, e3, e4, ih, evn, e]
    simp only [cv]
    grind
theorem evn_inj : ∀ {n : Nat} {c : Nat → Int}, (∀ x : Int, 1 ≤ x → evn c n x = 0) → ∀ k, k < n → c k = 0
  | 0, c, _, k, hk => by omega
  | n + 1, c, h, k, hk => by
    have h0 : c 0 = 0 := by
      have := h (((c 0).natAbs : Nat) + 1) (by omega)
      rw [evn] at this
      have hd : (((c 0).natAbs : Nat) : Int) + 1 ∣ c 0 := ⟨-(evn (fun k => c (k + 1)) n (((c 0).natAbs : Nat) + 1)), by grind⟩
      by_cases e : c 0 = 0
      · exact e
      · have := Nat.le_of_dvd (by omega) (Int.natAbs_dvd_natAbs.2 hd); omega
    cases k with
    | zero => exact h0
    | succ k =>
      refine evn_inj (n := n) (c := fun k => c (k + 1)) (fun x hx => ?_) k (by omega)
      have := h x hx
      rw [evn, h0, Int.zero_add] at this
      rcases Int.mul_eq_zero.1 this with h1 | h1
      · omega
      · exact h1

/-- the value at a whole number -/
noncomputable def ev (f : Poly) (x : Int) : Int := evn f.c f.fin.choose x
theorem ev_eq {f : Poly} {n : Nat} (h : ∀ k, n ≤ k → f.c k = 0) (x : Int) : f.ev x = evn f.c n x := evn_same f.fin.choose_spec h
theorem ext_ev {f g : Poly} (h : ∀ x, 1 ≤ x → f.ev x = g.ev x) : f = g := by
  obtain ⟨n, hn⟩ := f.fin
  obtain ⟨m, hm⟩ := g.fin
  refine ext_c fun k => ?_
  have key := evn_inj (n := max n m + k + 1) (c := fun k => f.c k + (-1) * g.c k) (fun x hx => by
    rw [evn_add, evn_scale, ← ev_eq (f := f) (fun k hk => hn k (by omega)), ← ev_eq (f := g) (fun k hk => hm k (by omega)), h x hx]; omega) k (by omega)
  have key2 : f.c k + (-1) * g.c k = 0 := key
  omega

instance : Add Poly := ⟨fun f g => ⟨fun k => f.c k + g.c k, by
  obtain ⟨n, hn⟩ := f.fin
  obtain ⟨m, hm⟩ := g.fin
  exact ⟨max n m, fun k hk => by rw [hn k (by omega), hm k (by omega)]; rfl⟩⟩⟩
instance : Neg Poly := ⟨fun f => ⟨fun k => - f.c k, by
  obtain ⟨n, hn⟩ := f.fin
  exact ⟨n, fun k hk => by rw [hn k hk]; rfl⟩⟩⟩
instance : Sub Poly := ⟨fun f g => ⟨fun k => f.c k - g.c k, by
  obtain ⟨n, hn⟩ := f.fin
  obtain ⟨m, hm⟩ := g.fin
  exact ⟨max n m, fun k hk => by rw [hn k (by omega), hm k (by omega)]; rfl⟩⟩⟩
theorem cvz {c d : Nat → Int} (h : ∀ a, c a = 0) (k : Nat) : cv c d k = 0 := by
  induction k generalizing c with
  | zero => simp [cv, h]
  | succ k ih => rw [cv, ih (fun a => h _), h]; simp
theorem cv_fin {c d : Nat → Int} {n m : Nat} (hc : ∀ k, n ≤ k → c k = 0) (hd : ∀ k, m ≤ k → d k = 0) : ∀ k, n + m ≤ k + 1 → cv c d k = 0 := by
  intro k
  induction n generalizing c k with
  | zero =>
    intro _
    exact cvz (fun a => hc a (by omega)) k
  | succ n ih =>
    intro hk
    cases k with
    | zero =>
      rw [cv]
      by_cases e : m = 0
      · rw [hd 0 (by omega)]; simp
      · omega
    | succ k =>
      rw [cv, hd (k + 1) (by omega), ih (c := fun i => c (i + 1)) (fun j hj => hc _ (by omega)) k (by omega)]; simp
instance : Mul Poly := ⟨fun f g => ⟨cv f.c g.c, by
  obtain ⟨n, hn⟩ := f.fin
  obtain ⟨m, hm⟩ := g.fin
  exact ⟨n + m, fun k hk => cv_fin hn hm k (by omega)⟩⟩⟩
def C (a : Int) : Poly := ⟨fun k => if k = 0 then a else 0, 1, fun k hk => by simp; omega⟩
def X : Poly := ⟨fun k => if k = 1 then 1 else 0, 2, fun k hk => by simp; omega⟩
instance : OfNat Poly 0 := ⟨C 0⟩
instance : OfNat Poly 1 := ⟨C 1⟩
theorem add_c (f g : Poly) (k : Nat) : (f + g).c k = f.c k + g.c k := rfl
theorem sub_c (f g : Poly) (k : Nat) : (f - g).c k = f.c k - g.c k := rfl
theorem neg_c (f : Poly) (k : Nat) : (-f).c k = - f.c k := rfl
theorem mul_c (f g : Poly) (k : Nat) : (f * g).c k = cv f.c g.c k := rfl
theorem zero_c (k : Nat) : (0 : Poly).c k = 0 := by show (if k = 0 then (0 : Int) else 0) = 0; simp
theorem C_c (a : Int) (k : Nat) : (C a).c k = if k = 0 then a else 0 := rfl
@[simp] theorem ev_add (f g : Poly) (x : Int) : (f + g).ev x = f.ev x + g.ev x := by
  obtain ⟨n, hn⟩ := f.fin
  obtain ⟨m, hm⟩ := g.fin
  rw [ev_eq (f := f) (n := max n m) (fun k hk => hn k (by omega)), ev_eq (f := g) (n := max n m) (fun k hk => hm k (by omega)), ev_eq (f := f + g) (n := max n m) (fun k hk => by rw [add_c, hn k (by omega), hm k (by omega)]; rfl)]
  exact evn_add _ _ _
@[simp] theorem ev_neg (f : Poly) (x : Int) : (-f).ev x = - f.ev x := by
  obtain ⟨n, hn⟩ := f.fin
  rw [ev_eq (f := f) hn, ev_eq (f := -f) (n := n) (fun k hk => by rw [neg_c, hn k (by omega)]; rfl)]
  have := evn_scale (x := x) (a := -1) n f.c
  rw [show (fun k => -1 * f.c k) = (-f).c from funext fun k => by rw [neg_c]; omega] at this
  omega
@[simp] theorem ev_sub (f g : Poly) (x : Int) : (f - g).ev x = f.ev x - g.ev x := by
  have : f - g = f + -g := ext_c fun k => by rw [sub_c, add_c, neg_c]; omega
  rw [this, ev_add, ev_neg]; omega
@[simp] theorem ev_mul (f g : Poly) (x : Int) : (f * g).ev x = f.ev x * g.ev x := by
  obtain ⟨n, hn⟩ := f.fin
  obtain ⟨m, hm⟩ := g.fin
  rw [ev_eq hn, ev_eq hm, ev_eq (f := f * g) (n := n + m) (fun k hk => cv_fin hn hm k (by omega))]
  exact evn_mul hm n _ hn _ (Nat.le_refl _)
@[simp] theorem ev_C (a x : Int) : (C a).ev x = a := by
  rw [ev_eq (n := 1) (fun k hk => by rw [C_c, if_neg (by omega)])]
  simp [evn, C_c]
@[simp] theorem ev_zero (x : Int) : (0 : Poly).ev x = 0 := ev_C 0 x
@[simp] theorem ev_one (x : Int) : (1 : Poly).ev x = 1 := ev_C 1 x
@[simp] theorem ev_X (x : Int) : X.ev x = x := by
  rw [ev_eq (n := 2) (fun k hk => by show (if k = 1 then (1 : Int) else 0) = 0; rw [if_neg (by omega)])]
  simp [evn, X]

/-! ### Size: the number of coefficients up to the last that is not 0 -/
def top (c : Nat → Int) : Nat → Nat
  | 0 => 0
  | n + 1 => if c n = 0 then top c n else n + 1
theorem top_le (c : Nat → Int) : ∀ n, top c n ≤ n
  | 0 => Nat.le_refl _
  | n + 1 => by unfold top; split
                · exact Nat.le_succ_of_le (top_le c n)
                · exact Nat.le_refl _
theorem top_above {c : Nat → Int} : ∀ {n k : Nat}, (∀ j, n ≤ j → c j = 0) → top c n ≤ k → c k = 0
  | 0, k, h, _ => h k (by omega)
  | n + 1, k, h, hk => by
    unfold top at hk
    split at hk
    · rename_i h0
      refine top_above (n := n) (fun j hj => ?_) hk
      by_cases e : j = n
      · subst e; exact h0
      · exact h j (by omega)
    · exact h k (by omega)
theorem top_ne {c : Nat → Int} : ∀ {n : Nat}, 0 < top c n → c (top c n - 1) ≠ 0
  | 0, h => by simp [top] at h
  | n + 1, h => by
    unfold top at h ⊢
    split
    · rename_i e; rw [if_pos e] at h; exact top_ne h
    · rename_i e; simpa using e
noncomputable def sz (f : Poly) : Nat := top f.c f.fin.choose
theorem above {f : Poly} {k : Nat} (h : f.sz ≤ k) : f.c k = 0 := top_above f.fin.choose_spec h
theorem last {f : Poly} (h : 0 < f.sz) : f.c (f.sz - 1) ≠ 0 := top_ne h
theorem sz_le {f : Poly} {n : Nat} (h : ∀ k, n ≤ k → f.c k = 0) : f.sz ≤ n := by
  rcases Nat.lt_or_ge n f.sz with h1 | h1
  · exact absurd (h _ (by omega)) (last (by omega))
  · exact h1
theorem lt_sz {f : Poly} {n : Nat} (h : f.c n ≠ 0) : n < f.sz := by
  rcases Nat.lt_or_ge n f.sz with h1 | h1
  · exact h1
  · exact absurd (above h1) h
theorem sz_eq {f : Poly} {n : Nat} (h : f.c n ≠ 0) (h2 : ∀ k, n < k → f.c k = 0) : f.sz = n + 1 := by
  have := lt_sz h
  have := sz_le (f := f) (n := n + 1) (fun k hk => h2 k (by omega))
  omega
noncomputable def lc (f : Poly) : Int := f.c (f.sz - 1)
theorem sz_zero : (0 : Poly).sz = 0 := Nat.le_zero.1 (sz_le fun k _ => zero_c k)
theorem eq_zero {f : Poly} : f = 0 ↔ f.sz = 0 := ⟨fun h => by rw [h, sz_zero], fun h => ext_c fun k => by rw [zero_c]; exact above (by omega)⟩
theorem lc_ne {f : Poly} (h : f ≠ 0) : f.lc ≠ 0 := last (Nat.pos_of_ne_zero fun e => h (eq_zero.2 e))
theorem sz_pos {f : Poly} (h : f ≠ 0) : 0 < f.sz := Nat.pos_of_ne_zero fun e => h (eq_zero.2 e)
theorem lc_zero : (0 : Poly).lc = 0 := zero_c _
theorem cv_low {c d : Nat → Int} {n m : Nat} (hc : ∀ k, n < k → c k = 0) (hd : ∀ k, m < k → d k = 0) : cv c d (n + m) = c n * d m := by
  induction n generalizing c with
  | zero =>
    rw [Nat.zero_add]
    cases m with
    | zero => rfl
    | succ m => rw [cv, cvz (fun k => hc (k + 1) (by omega))]; omega
  | succ n ih =>
    rw [show n + 1 + m = (n + m) + 1 by omega, cv, hd (n + m + 1) (by omega), ih (c := fun i => c (i + 1)) (fun k hk => hc _ (by omega))]
    omega
theorem mul_top {f g : Poly} (hf : f ≠ 0) (hg : g ≠ 0) : (f * g).c (f.sz - 1 + (g.sz - 1)) = f.lc * g.lc :=
  cv_low (fun k hk => above (by have := sz_pos hf; omega)) (fun k hk => above (by have := sz_pos hg; omega))
theorem sz_mul {f g : Poly} (hf : f ≠ 0) (hg : g ≠ 0) : (f * g).sz = f.sz + g.sz - 1 := by
  have h1 := mul_top hf hg
  have a := sz_pos hf
  have b := sz_pos hg
  have h2 := sz_eq (f := f * g) (n := f.sz - 1 + (g.sz - 1)) (by rw [h1]; exact Int.mul_ne_zero (lc_ne hf) (lc_ne hg))
    (fun k hk => cv_fin (fun _ h => above h) (fun _ h => above h) k (by omega))
  omega
theorem mul_ne {f g : Poly} (hf : f ≠ 0) (hg : g ≠ 0) : f * g ≠ 0 := fun e => by
  have h := sz_mul hf hg
  have a := sz_pos hf
  have b := sz_pos hg
  rw [e, sz_zero] at h
  omega
theorem lc_mul (f g : Poly) : (f * g).lc = f.lc * g.lc := by
  by_cases hf : f = 0
  · subst hf
    rw [show (0 : Poly) * g = 0 from ext_ev fun x _ => by simp, lc_zero]; simp
  by_cases hg : g = 0
  · subst hg
    rw [show f * (0 : Poly) = 0 from ext_ev fun x _ => by simp, lc_zero]; simp
  have a := sz_pos hf
  have b := sz_pos hg
  rw [← mul_top hf hg, lc, sz_mul hf hg]
  congr 1
  omega
theorem mul_eq_zero {f g : Poly} (h : f * g = 0) : f = 0 ∨ g = 0 := by
  by_cases hf : f = 0
  · exact .inl hf
  · by_cases hg : g = 0
    · exact .inr hg
    · exact absurd h (mul_ne hf hg)
theorem sz_C {a : Int} (h : a ≠ 0) : (C a).sz = 1 := sz_eq (n := 0) (by simpa [C_c] using h) (fun k hk => by rw [C_c, if_neg (by omega)])
theorem C_ne {a : Int} (h : a ≠ 0) : C a ≠ 0 := fun e => by have := sz_C h; rw [e, sz_zero] at this; omega
theorem sz_add (f g : Poly) : (f + g).sz ≤ max f.sz g.sz := sz_le fun k hk => by rw [add_c, above (by omega), above (by omega)]; rfl
theorem sz_sub (f g : Poly) : (f - g).sz ≤ max f.sz g.sz := sz_le fun k hk => by rw [sub_c, above (by omega), above (by omega)]; rfl
theorem sz_neg (f : Poly) : (-f).sz = f.sz := by
  refine Nat.le_antisymm (sz_le fun k hk => by rw [neg_c, above hk]; rfl) (sz_le fun k hk => ?_)
  have := above (f := -f) hk
  rw [neg_c] at this
  omega
theorem Cmul_c (a : Int) (f : Poly) (k : Nat) : (C a * f).c k = a * f.c k := by
  rw [mul_c, cv_comm]
  cases k with
  | zero => simp [cv, C_c, Int.mul_comm]
  | succ k =>
    rw [cv_right]
    have : cv f.c (fun i => (C a).c (i + 1)) k = 0 := by
      rw [cv_comm]; exact cvz (fun i => by rw [C_c, if_neg (by omega)]) k
    rw [this, C_c, if_pos rfl, Int.mul_comm]; omega
end Poly
end Go.Abs

set_option linter.unusedVariables false
set_option linter.unusedSimpArgs false
namespace Go.Abs

theorem ncd {m : Nat} {z : Int} : (m : Int) ∣ z ↔ m ∣ z.natAbs := by rw [← Int.natAbs_dvd_natAbs, Int.natAbs_natCast]
/-! ### Primes -/
def Prm (p : Nat) : Prop := 2 ≤ p ∧ ∀ a b : Nat, p ∣ a * b → p ∣ a ∨ p ∣ b
theorem prm_of_min {p : Nat} (h2 : 2 ≤ p) (h : ∀ d, 2 ≤ d → d ∣ p → p ≤ d) : Prm p := by
  refine ⟨h2, fun a b hab => ?_⟩
  have hg := Nat.gcd_dvd_left p a
  by_cases e : Nat.gcd p a = 1
  · exact .inr (Nat.Coprime.dvd_of_dvd_mul_left e hab)
  · left
    have h0 : Nat.gcd p a ≠ 0 := fun e0 => by rw [e0] at hg; have := Nat.eq_zero_of_zero_dvd hg; omega
    have := h (Nat.gcd p a) (by omega) hg
    have h3 := Nat.le_of_dvd (by omega) hg
    have h4 : Nat.gcd p a = p := by omega
    rw [← h4]; exact Nat.gcd_dvd_right p a
theorem prm_ex {n : Nat} (h : n ≠ 1) : ∃ p, Prm p ∧ p ∣ n := by
  by_cases h0 : n = 0
  · subst h0
    exact ⟨2, prm_of_min (by omega) (fun d hd _ => hd), ⟨0, rfl⟩⟩
  have key : ∀ k d : Nat, d ≤ k → 2 ≤ d → d ∣ n → ∃ p, Prm p ∧ p ∣ n := by
    intro k
    induction k with
    | zero => intro d h1 h2; omega
    | succ k ih =>
      intro d hd h2 hn
      by_cases hm : ∀ e, 2 ≤ e → e ∣ d → d ≤ e
      · exact ⟨d, prm_of_min h2 hm, hn⟩
      · have hm : ∃ e, 2 ≤ e ∧ e ∣ d ∧ e < d := by
          apply Classical.byContradiction
          intro hc
          apply hm
          intro e h1 h3
          rcases Nat.lt_or_ge e d with h4 | h4
          · exact absurd ⟨e, h1, h3, h4⟩ hc
          · exact h4
        obtain ⟨e, h1, h3, h4⟩ := hm
        exact ih e (by omega) h1 (Nat.dvd_trans h3 hn)
  exact key n n (Nat.le_refl _) (by omega) (Nat.dvd_refl _)
theorem Prm.int {p : Nat} (hp : Prm p) {a b : Int} (h : (p : Int) ∣ a * b) : (p : Int) ∣ a ∨ (p : Int) ∣ b := by
  have := Int.natAbs_dvd_natAbs.2 h
  rw [Int.natAbs_mul, Int.natAbs_natCast] at this
  rcases hp.2 _ _ this with h1 | h1
  · exact .inl (ncd.2 h1)
  · exact .inr (ncd.2 h1)

namespace Poly
/-! ### Content -/
def gcdn (c : Nat → Int) : Nat → Nat
  | 0 => 0
  | n + 1 => Nat.gcd (gcdn c n) (c n).natAbs
theorem gcdn_dvd {c : Nat → Int} : ∀ {n k : Nat}, k < n → (gcdn c n : Int) ∣ c k
  | 0, k, h => by omega
  | n + 1, k, h => by
    rw [gcdn]
    by_cases e : k = n
    · subst e; exact ncd.2 (Nat.gcd_dvd_right _ _)
    · exact Int.dvd_trans (Int.natCast_dvd_natCast.2 (Nat.gcd_dvd_left _ _)) (gcdn_dvd (by omega))
theorem dvd_gcdn {c : Nat → Int} {d : Nat} : ∀ {n : Nat}, (∀ k, k < n → (d : Int) ∣ c k) → d ∣ gcdn c n
  | 0, h => ⟨0, rfl⟩
  | n + 1, h => Nat.dvd_gcd (dvd_gcdn fun k hk => h k (by omega)) (ncd.1 (h n (by omega)))
noncomputable def cont (f : Poly) : Nat := gcdn f.c f.sz
theorem cont_dvd (f : Poly) (k : Nat) : (f.cont : Int) ∣ f.c k := by
  rcases Nat.lt_or_ge k f.sz with h | h
  · exact gcdn_dvd h
  · rw [above h]; exact ⟨0, by simp⟩
theorem dvd_cont {f : Poly} {d : Nat} (h : ∀ k, (d : Int) ∣ f.c k) : d ∣ f.cont := dvd_gcdn fun k _ => h k
theorem cont_unique {f : Poly} {d : Nat} (h1 : ∀ k, (d : Int) ∣ f.c k) (h2 : ∀ e : Nat, (∀ k, (e : Int) ∣ f.c k) → e ∣ d) : f.cont = d :=
  Nat.dvd_antisymm (h2 _ f.cont_dvd) (dvd_cont h1)
theorem cont_zero {f : Poly} : f.cont = 0 ↔ f = 0 := by
  constructor
  · intro h
    refine ext_c fun k => ?_
    have := f.cont_dvd k
    rw [h] at this
    rw [zero_c]
    exact Int.zero_dvd.1 this
  · rintro rfl
    unfold cont; rw [sz_zero]; rfl
/-- a divisor of all coefficients can be taken out -/
theorem div_out {f : Poly} {a : Int} (h : ∀ k, a ∣ f.c k) : ∃ g : Poly, f = C a * g := by
  by_cases h0 : a = 0
  · subst h0
    refine ⟨0, ext_c fun k => ?_⟩
    rw [Cmul_c, Int.zero_dvd.1 (h k)]; simp
  · refine ⟨⟨fun k => f.c k / a, f.sz, fun k hk => by rw [above hk]; simp⟩, ext_c fun k => ?_⟩
    rw [Cmul_c]
    exact (Int.mul_ediv_cancel' (h k)).symm
theorem cont_Cmul (a : Int) (f : Poly) : (C a * f).cont = a.natAbs * f.cont := by
  by_cases h0 : a = 0
  · subst h0
    rw [Int.natAbs_zero, Nat.zero_mul, cont_zero]
    exact ext_c fun k => by rw [Cmul_c, zero_c]; simp
  refine cont_unique (fun k => ?_) fun e he => ?_
  · rw [Cmul_c, Int.natCast_mul]
    exact Int.mul_dvd_mul (Int.natAbs_dvd.2 (Int.dvd_refl _)) (f.cont_dvd k)
  · have h1 : ∀ k, e ∣ a.natAbs * (f.c k).natAbs := fun k => by
      have := ncd.1 (he k)
      rwa [Cmul_c, Int.natAbs_mul] at this
    have key : ∀ n, e ∣ a.natAbs * gcdn f.c n := by
      intro n
      induction n with
      | zero => exact ⟨0, by simp [gcdn]⟩
      | succ n ih => rw [gcdn, ← Nat.gcd_mul_left]; exact Nat.dvd_gcd ih (h1 n)
    exact key _

def Prim (f : Poly) : Prop := f.cont = 1
theorem Prim.ne {f : Poly} (h : Prim f) : f ≠ 0 := fun e => by
  have := cont_zero.2 e
  unfold Prim at h; omega
theorem prim_part (f : Poly) (h : f ≠ 0) : ∃ g, f = C f.cont * g ∧ Prim g := by
  obtain ⟨g, hg⟩ := div_out (f := f) (a := f.cont) f.cont_dvd
  refine ⟨g, hg, ?_⟩
  have h1 := cont_Cmul f.cont g
  rw [← hg, Int.natAbs_natCast] at h1
  have h2 : f.cont ≠ 0 := fun e => h (cont_zero.1 e)
  exact Nat.eq_of_mul_eq_mul_left (by omega) (by omega : f.cont * g.cont = f.cont * 1)

theorem cv_dvd {p : Int} {c d : Nat → Int} {j : Nat} (h : ∀ k, k ≤ j → p ∣ d k) : p ∣ cv c d j := by
  induction j generalizing c with
  | zero => rw [cv]; exact Int.dvd_mul_of_dvd_right (h 0 (by omega))
  | succ j ih => rw [cv]; exact Int.dvd_add (Int.dvd_mul_of_dvd_right (h _ (by omega))) (ih fun k hk => h k (by omega))
theorem cv_first {p : Int} {c d : Nat → Int} {i j : Nat} (hc : ∀ k, k < i → p ∣ c k) (hd : ∀ k, k < j → p ∣ d k) : p ∣ cv c d (i + j) - c i * d j := by
  induction i generalizing c with
  | zero =>
    rw [Nat.zero_add]
    cases j with
    | zero => rw [cv]; exact ⟨0, by simp⟩
    | succ j =>
      rw [cv, show c 0 * d (j + 1) + cv (fun i => c (i + 1)) d j - c 0 * d (j + 1) = cv (fun i => c (i + 1)) d j by omega]
      exact cv_dvd fun k hk => hd k (by omega)
  | succ i ih =>
    rw [show i + 1 + j = (i + j) + 1 by omega, cv]
    have h1 := ih (c := fun i => c (i + 1)) (fun k hk => hc _ (by omega))
    have h2 : p ∣ c 0 * d (i + j + 1) := Int.dvd_mul_of_dvd_left (hc 0 (by omega))
    have := Int.dvd_add h2 h1
    rwa [show c 0 * d (i + j + 1) + cv (fun i => c (i + 1)) d (i + j) - c (i + 1) * d j = c 0 * d (i + j + 1) + (cv (fun i => c (i + 1)) d (i + j) - c (i + 1) * d j) by omega]
theorem first_not {Q : Nat → Prop} (h : ¬ ∀ k, Q k) : ∃ i, ¬ Q i ∧ ∀ k, k < i → Q k := by
  have h : ∃ i, ¬ Q i := Classical.byContradiction fun hc => h fun k => Classical.byContradiction fun hk => hc ⟨k, hk⟩
  obtain ⟨n, hn⟩ := h
  induction n using Nat.strongRecOn with
  | _ n ih =>
    by_cases hm : ∀ k, k < n → Q k
    · exact ⟨n, hn, hm⟩
    · have : ∃ k, k < n ∧ ¬ Q k := Classical.byContradiction fun hc => hm fun k hk => Classical.byContradiction fun h2 => hc ⟨k, hk, h2⟩
      obtain ⟨k, h1, h2⟩ := this
      exact ih k h1 h2
theorem prm_mul {p : Nat} (hp : Prm p) {f g : Poly} (h : ∀ k, (p : Int) ∣ (f * g).c k) : (∀ k, (p : Int) ∣ f.c k) ∨ (∀ k, (p : Int) ∣ g.c k) := by
  apply Classical.byContradiction
  intro hc
  have hf : ¬ ∀ k, (p : Int) ∣ f.c k := fun h1 => hc (.inl h1)
  have hg : ¬ ∀ k, (p : Int) ∣ g.c k := fun h1 => hc (.inr h1)
  obtain ⟨i, i1, i2⟩ := first_not hf
  obtain ⟨j, j1, j2⟩ := first_not hg
  have h1 := cv_first i2 j2
  have h2 := h (i + j)
  rw [mul_c] at h2
  have h3 : (p : Int) ∣ f.c i * g.c j := by
    have := Int.dvd_sub h2 h1
    rwa [show cv f.c g.c (i + j) - (cv f.c g.c (i + j) - f.c i * g.c j) = f.c i * g.c j by omega] at this
  rcases hp.int h3 with h4 | h4
  · exact i1 h4
  · exact j1 h4
theorem prim_mul {f g : Poly} (hf : Prim f) (hg : Prim g) : Prim (f * g) := by
  apply Classical.byContradiction
  intro h
  obtain ⟨p, hp, hd⟩ := prm_ex h
  have : ∀ k, (p : Int) ∣ (f * g).c k := fun k => Int.dvd_trans (Int.natCast_dvd_natCast.2 hd) ((f * g).cont_dvd k)
  have h2 := hp.1
  rcases prm_mul hp this with h1 | h1
  · have := Nat.le_of_dvd (by omega) (hf ▸ dvd_cont h1); omega
  · have := Nat.le_of_dvd (by omega) (hg ▸ dvd_cont h1); omega
theorem cont_mul (f g : Poly) : (f * g).cont = f.cont * g.cont := by
  by_cases hf : f = 0
  · subst hf
    rw [show (0 : Poly) * g = 0 from ext_ev fun x _ => by simp, cont_zero.2 rfl]; simp
  by_cases hg : g = 0
  · subst hg
    rw [show f * (0 : Poly) = 0 from ext_ev fun x _ => by simp, cont_zero.2 rfl]; simp
  obtain ⟨a, ha, pa⟩ := prim_part f hf
  obtain ⟨b, hb, pb⟩ := prim_part g hg
  have e : f * g = C (f.cont * g.cont) * (a * b) := by
    have h1 := congrArg (· * g) ha
    have h2 := congrArg (C f.cont * a * ·) hb
    refine h1.trans (h2.trans (ext_ev fun x _ => ?_))
    simp only [ev_mul, ev_C]; grind
  have := cont_Cmul (f.cont * g.cont) (a * b)
  rw [← e, show (a * b).cont = 1 from prim_mul pa pb] at this
  rw [this, Int.natAbs_mul]; simp

/-! ### Divisibility -/
/-- over the whole numbers -/
def Dv (g f : Poly) : Prop := ∃ q, f = q * g
/-- over the fractions -/
def Dq (g f : Poly) : Prop := ∃ a : Int, a ≠ 0 ∧ Dv g (C a * f)
theorem Dv.dq {f g : Poly} (h : Dv g f) : Dq g f := ⟨1, by decide, by
  obtain ⟨q, rfl⟩ := h
  exact ⟨q, ext_ev fun x _ => by simp⟩⟩
theorem gauss {f g : Poly} (hg : Prim g) (h : Dq g f) : Dv g f := by
  obtain ⟨a, ha, q, hq⟩ := h
  have h1 := cont_mul q g
  rw [← hq, cont_Cmul, show g.cont = 1 from hg, Nat.mul_one] at h1
  obtain ⟨t, ht⟩ := div_out (f := q) (a := a) fun k => by
    have h2 := q.cont_dvd k
    rw [← h1] at h2
    exact Int.dvd_trans (by rw [Int.natCast_mul]; exact Int.dvd_mul_of_dvd_left (Int.dvd_natAbs.2 (Int.dvd_refl _))) h2
  refine ⟨t, ?_⟩
  have h3 : C a * (f - t * g) = 0 := ext_ev fun x _ => by
    have e1 := congrArg (fun p => ev p x) hq
    have e2 := congrArg (fun p => ev p x) ht
    simp only [ev_mul, ev_C, ev_sub, ev_zero] at e1 e2 ⊢
    rw [e2] at e1
    grind
  rcases mul_eq_zero h3 with h4 | h4
  · exact absurd h4 (C_ne ha)
  · refine ext_ev fun x _ => ?_
    have := congrArg (fun p => ev p x) h4
    simp only [ev_sub, ev_zero] at this
    omega
end Poly
end Go.Abs

set_option linter.unusedVariables false
set_option linter.unusedSimpArgs false
namespace Go.Abs
namespace Poly

theorem congr_ev {f g : Poly} (h : f = g) (x : Int) : f.ev x = g.ev x := by rw [h]
/-- X to a power -/
def Xp (n : Nat) : Poly := ⟨fun k => if k = n then 1 else 0, n + 1, fun k hk => by rw [if_neg (by omega)]⟩
theorem Xp_c (n k : Nat) : (Xp n).c k = if k = n then 1 else 0 := rfl
theorem sz_Xp (n : Nat) : (Xp n).sz = n + 1 := sz_eq (by simp [Xp_c]) fun k hk => by rw [Xp_c, if_neg (by omega)]
theorem Xp_ne (n : Nat) : Xp n ≠ 0 := fun e => by have := sz_Xp n; rw [e, sz_zero] at this; omega
theorem lc_Xp (n : Nat) : (Xp n).lc = 1 := by rw [lc, sz_Xp, Xp_c, if_pos (by omega)]
theorem Xp_mul_c (n : Nat) (f : Poly) (k : Nat) : (Xp n * f).c k = if n ≤ k then f.c (k - n) else 0 := by
  rw [mul_c]
  have gen : ∀ (n k : Nat) (a : Nat → Int), (∀ j, a j = if j = n then 1 else 0) → cv a f.c k = if n ≤ k then f.c (k - n) else 0 := by
    intro n
    induction n with
    | zero =>
      intro k a ha
      cases k with
      | zero => rw [cv, ha]; simp
      | succ k => rw [cv, ha, cvz (fun j => by rw [ha, if_neg (by omega)])]; simp
    | succ n ih =>
      intro k a ha
      cases k with
      | zero => rw [cv, ha, if_neg (by omega), if_neg (by omega)]; simp
      | succ k =>
        rw [cv, ha, if_neg (by omega), ih k (fun i => a (i + 1)) (fun j => by rw [ha]; by_cases e : j = n <;> simp [e])]
        by_cases h : n ≤ k
        · rw [if_pos h, if_pos (by omega), show k + 1 - (n + 1) = k - n by omega]; simp
        · rw [if_neg h, if_neg (by omega)]; simp
  exact gen n k _ (fun j => rfl)
theorem lc_C (a : Int) : (C a).lc = a := by
  by_cases h : a = 0
  · subst h; exact lc_zero
  · rw [lc, sz_C h]; rfl
theorem C_mul (a b : Int) : C (a * b) = C a * C b := ext_ev fun x _ => by simp
theorem C_inj {a b : Int} (h : C a = C b) : a = b := by have := congr_ev h 0; simpa using this
theorem sz_Cmul {a : Int} (h : a ≠ 0) (f : Poly) : (C a * f).sz = f.sz := by
  by_cases hf : f = 0
  · subst hf
    rw [show C a * (0 : Poly) = 0 from ext_ev fun x _ => by simp]
  · rw [sz_mul (C_ne h) hf, sz_C h]; omega
theorem Cmul_cancel {a : Int} (h : a ≠ 0) {f g : Poly} (e : C a * f = C a * g) : f = g := by
  have : C a * (f - g) = 0 := ext_ev fun x _ => by
    have := congr_ev e x
    simp at this ⊢; grind
  rcases mul_eq_zero this with h1 | h1
  · exact absurd h1 (C_ne h)
  · exact ext_ev fun x _ => by have := congr_ev h1 x; simp at this; omega
theorem mul_cancel {f g h : Poly} (hh : h ≠ 0) (e : f * h = g * h) : f = g := by
  have : (f - g) * h = 0 := ext_ev fun x _ => by
    have := congr_ev e x
    simp at this ⊢; grind
  rcases mul_eq_zero this with h1 | h1
  · exact ext_ev fun x _ => by have := congr_ev h1 x; simp at this; omega
  · exact absurd h1 hh
/-- one step down: the last coefficient goes -/
theorem step_down {f g : Poly} (hg : g ≠ 0) (h : g.sz ≤ f.sz) : (C g.lc * f - C f.lc * (Xp (f.sz - g.sz) * g)).sz < f.sz := by
  have hp := sz_pos hg
  have := sz_le (f := C g.lc * f - C f.lc * (Xp (f.sz - g.sz) * g)) (n := f.sz - 1) fun k hk => by
    rw [sub_c, Cmul_c, Cmul_c, Xp_mul_c]
    by_cases e : k = f.sz - 1
    · subst e
      rw [if_pos (by omega), show f.sz - 1 - (f.sz - g.sz) = g.sz - 1 by omega]
      show g.lc * f.lc - f.lc * g.lc = 0
      rw [Int.mul_comm]; omega
    · rw [above (f := f) (by omega)]
      by_cases h2 : f.sz - g.sz ≤ k
      · rw [if_pos h2, above (f := g) (by omega)]; simp
      · rw [if_neg h2]; simp
  omega
theorem pdiv (g : Poly) (hg : g ≠ 0) : ∀ (n : Nat) (f : Poly), f.sz ≤ n → ∃ (a : Int) (q r : Poly), a ≠ 0 ∧ C a * f = q * g + r ∧ r.sz < g.sz
  | 0, f, h => ⟨1, 0, f, by decide, ext_ev fun x _ => by simp, by have := sz_pos hg; omega⟩
  | n + 1, f, h => by
    by_cases hl : f.sz < g.sz
    · exact ⟨1, 0, f, by decide, ext_ev fun x _ => by simp, hl⟩
    have h1 := step_down hg (f := f) (by omega)
    obtain ⟨a, q, r, ha, he, hr⟩ := pdiv g hg n _ (Nat.le_of_lt_succ (Nat.lt_of_lt_of_le h1 h))
    refine ⟨a * g.lc, q + C (a * f.lc) * Xp (f.sz - g.sz), r, Int.mul_ne_zero ha (lc_ne hg), ext_ev fun x _ => ?_, hr⟩
    have := congr_ev he x
    simp at this ⊢
    grind

/-- a greatest common divisor over the fractions -/
structure Gq (f g d : Poly) : Prop where
  l : Dq d f
  r : Dq d g
  b : ∃ (u v : Poly) (a : Int), a ≠ 0 ∧ C a * d = u * f + v * g

theorem Dq.refl (f : Poly) : Dq f f := ⟨1, by decide, C 1, rfl⟩
theorem Dq.trans {f g h : Poly} (a : Dq f g) (b : Dq g h) : Dq f h := by
  obtain ⟨x, hx, p, hp⟩ := a
  obtain ⟨y, hy, q, hq⟩ := b
  refine ⟨x * y, Int.mul_ne_zero hx hy, q * p, ext_ev fun t _ => ?_⟩
  have h1 := congr_ev hp t
  have h2 := congr_ev hq t
  simp at h1 h2 ⊢
  grind
theorem Dq.zero (f : Poly) : Dq f 0 := ⟨1, by decide, 0, ext_ev fun x _ => by simp⟩
theorem Dq.add {d f g : Poly} (a : Dq d f) (b : Dq d g) : Dq d (f + g) := by
  obtain ⟨x, hx, p, hp⟩ := a
  obtain ⟨y, hy, q, hq⟩ := b
  refine ⟨x * y, Int.mul_ne_zero hx hy, C y * p + C x * q, ext_ev fun t _ => ?_⟩
  have h1 := congr_ev hp t
  have h2 := congr_ev hq t
  simp at h1 h2 ⊢
  grind
theorem Dq.mul {d f : Poly} (g : Poly) (a : Dq d f) : Dq d (g * f) := by
  obtain ⟨x, hx, p, hp⟩ := a
  refine ⟨x, hx, g * p, ext_ev fun t _ => ?_⟩
  have h1 := congr_ev hp t
  simp at h1 ⊢
  grind
theorem Dq.mulr {d f : Poly} (g : Poly) (a : Dq d f) : Dq d (f * g) := by
  have := Dq.mul g a
  rwa [show g * f = f * g from ext_ev fun t _ => by simp; grind] at this
theorem Dq.scale {d f : Poly} {a : Int} (ha : a ≠ 0) : Dq d (C a * f) ↔ Dq d f := by
  constructor
  · rintro ⟨x, hx, p, hp⟩
    refine ⟨x * a, Int.mul_ne_zero hx ha, p, ext_ev fun t _ => ?_⟩
    have h1 := congr_ev hp t
    simp at h1 ⊢
    grind
  · exact Dq.mul _
theorem Dq.scalel {d f : Poly} {a : Int} (ha : a ≠ 0) : Dq (C a * d) f ↔ Dq d f := by
  constructor
  · rintro ⟨x, hx, p, hp⟩
    refine ⟨x, hx, C a * p, ext_ev fun t _ => ?_⟩
    have h1 := congr_ev hp t
    simp at h1 ⊢
    grind
  · rintro ⟨x, hx, p, hp⟩
    refine ⟨x * a, Int.mul_ne_zero hx ha, p, ext_ev fun t _ => ?_⟩
    have h1 := congr_ev hp t
    simp at h1 ⊢
    grind
theorem Dq.sz {d f : Poly} (h : Dq d f) (hf : f ≠ 0) : d.sz ≤ f.sz := by
  obtain ⟨a, ha, q, hq⟩ := h
  have h1 : C a * f ≠ 0 := mul_ne (C_ne ha) hf
  have hq0 : q ≠ 0 := fun e => h1 (by rw [hq, e]; exact ext_ev fun x _ => by simp)
  have hd0 : d ≠ 0 := fun e => h1 (by rw [hq, e]; exact ext_ev fun x _ => by simp)
  have := sz_mul hq0 hd0
  rw [← hq, sz_Cmul ha] at this
  have := sz_pos hq0
  omega
/-- divisors of each other differ by a factor -/
theorem Dq.anti {d e : Poly} (h1 : Dq d e) (h2 : Dq e d) : ∃ a b : Int, a ≠ 0 ∧ b ≠ 0 ∧ C a * d = C b * e := by
  by_cases he : e = 0
  · subst he
    obtain ⟨a, ha, q, hq⟩ := h2
    refine ⟨a, 1, ha, by decide, ?_⟩
    rw [hq]
    exact ext_ev fun x _ => by simp
  have hd : d ≠ 0 := fun e0 => by
    subst e0
    obtain ⟨a, ha, q, hq⟩ := h1
    exact mul_ne (C_ne ha) he (by rw [hq]; exact ext_ev fun x _ => by simp)
  have s1 := h1.sz he
  have s2 := h2.sz hd
  obtain ⟨a, ha, q, hq⟩ := h2
  have hq0 : q ≠ 0 := fun e0 => mul_ne (C_ne ha) hd (by rw [hq, e0]; exact ext_ev fun x _ => by simp)
  have := sz_mul hq0 he
  rw [← hq, sz_Cmul ha] at this
  have p1 := sz_pos hq0
  have p2 := sz_pos he
  have hq1 : q.sz = 1 := by omega
  have hqc : q = C (q.c 0) := ext_c fun k => by
    rw [C_c]
    split
    · rename_i e; rw [e]
    · exact above (by omega)
  refine ⟨a, q.c 0, ha, fun e0 => hq0 (by rw [hqc, e0]; rfl), ?_⟩
  rw [hq, ← hqc]
theorem assoc_prim {d e : Poly} {a b : Int} (ha : a ≠ 0) (hb : b ≠ 0) (h : C a * d = C b * e) (hd : Prim d) (he : Prim e) (pd : 0 < d.lc) (pe : 0 < e.lc) : d = e := by
  have h1 := congrArg cont h
  rw [cont_Cmul, cont_Cmul, show d.cont = 1 from hd, show e.cont = 1 from he] at h1
  have h2 := congrArg lc h
  rw [lc_mul, lc_mul, lc_C, lc_C] at h2
  have h3 : a = b := by
    rcases Int.lt_or_gt_of_ne ha with h4 | h4 <;> rcases Int.lt_or_gt_of_ne hb with h5 | h5
    · omega
    · have := Int.mul_neg_of_neg_of_pos h4 pd
      have := Int.mul_pos h5 pe
      omega
    · have := Int.mul_neg_of_neg_of_pos h5 pe
      have := Int.mul_pos h4 pd
      omega
    · omega
  subst h3
  exact Cmul_cancel ha h
theorem Gq.dvd {f g d e : Poly} (h : Gq f g d) (h1 : Dq e f) (h2 : Dq e g) : Dq e d := by
  obtain ⟨u, v, a, ha, hb⟩ := h.b
  rw [← Dq.scale ha, hb]
  exact (h1.mul u).add (h2.mul v)
theorem Gq.unique {f g d e : Poly} (h : Gq f g d) (k : Gq f g e) (hd : Prim d) (he : Prim e) (pd : 0 < d.lc) (pe : 0 < e.lc) : d = e := by
  obtain ⟨a, b, ha, hb, e1⟩ := Dq.anti (k.dvd h.l h.r) (h.dvd k.l k.r)
  exact assoc_prim ha hb e1 hd he pd pe
theorem Gq.zero (f : Poly) : Gq f 0 f := ⟨Dq.refl f, Dq.zero f, 1, 0, 1, by decide, ext_ev fun x _ => by simp⟩
theorem Gq.comm {f g d : Poly} (h : Gq f g d) : Gq g f d := by
  obtain ⟨u, v, a, ha, hb⟩ := h.b
  exact ⟨h.r, h.l, v, u, a, ha, ext_ev fun x _ => by have := congr_ev hb x; simp at this ⊢; omega⟩
/-- a division's step -/
theorem Gq.step {f g q r d : Poly} {a b : Int} (ha : a ≠ 0) (hb : b ≠ 0) (e : C a * f = q * g + C b * r) (h : Gq g r d) : Gq f g d := by
  refine ⟨?_, h.l, ?_⟩
  · rw [← Dq.scale ha, e]
    exact (h.l.mul q).add (h.r.mul _)
  · obtain ⟨u, v, c, hc, hb2⟩ := h.b
    refine ⟨C a * v, C b * u - q * v, b * c, Int.mul_ne_zero hb hc, ext_ev fun x _ => ?_⟩
    have h1 := congr_ev e x
    have h2 := congr_ev hb2 x
    simp at h1 h2 ⊢
    grind
theorem Gq.scale {f g d : Poly} {a b c : Int} (ha : a ≠ 0) (hb : b ≠ 0) (hc : c ≠ 0) : Gq (C a * f) (C b * g) (C c * d) ↔ Gq f g d := by
  constructor
  · rintro ⟨h1, h2, u, v, x, hx, e⟩
    refine ⟨(Dq.scalel hc).1 ((Dq.scale ha).1 h1), (Dq.scalel hc).1 ((Dq.scale hb).1 h2), C a * u, C b * v, x * c, Int.mul_ne_zero hx hc, ext_ev fun t _ => ?_⟩
    have := congr_ev e t
    simp at this ⊢
    grind
  · rintro ⟨h1, h2, u, v, x, hx, e⟩
    refine ⟨(Dq.scalel hc).2 ((Dq.scale ha).2 h1), (Dq.scalel hc).2 ((Dq.scale hb).2 h2), C (c * b) * u, C (c * a) * v, x * a * b, Int.mul_ne_zero (Int.mul_ne_zero hx ha) hb, ext_ev fun t _ => ?_⟩
    have := congr_ev e t
    simp at this ⊢
    grind
theorem Gq.ex : ∀ (n : Nat) (f g : Poly), g.sz ≤ n → ∃ d, Gq f g d
  | 0, f, g, h => by
    have := eq_zero.2 (Nat.le_zero.1 h)
    subst this
    exact ⟨f, Gq.zero f⟩
  | n + 1, f, g, h => by
    by_cases hg : g = 0
    · subst hg; exact ⟨f, Gq.zero f⟩
    obtain ⟨a, q, r, ha, e, hr⟩ := pdiv g hg f.sz f (Nat.le_refl _)
    obtain ⟨d, hd⟩ := Gq.ex n g r (by omega)
    exact ⟨d, hd.step (q := q) ha (b := 1) (by decide) (by rw [e]; exact ext_ev fun x _ => by simp)⟩
end Poly
end Go.Abs

set_option linter.unusedVariables false
set_option linter.unusedSimpArgs false
namespace Go.Abs
open Poly

/-- a list of coefficients as a polynomial -/
def polL (l : List Int) : Poly := ⟨fun k => l.getD k 0, l.length, fun k hk => by rw [List.getD_eq_getElem?_getD, List.getElem?_eq_none hk]; rfl⟩
/-- the coefficients of a polynomial -/
noncomputable def cs (f : Poly) : List Int := (List.range f.sz).map f.c
theorem polL_c (l : List Int) (k : Nat) : (polL l).c k = l.getD k 0 := rfl
@[simp] theorem cs_len (f : Poly) : (cs f).length = f.sz := by simp [cs]
theorem cs_get (f : Poly) (k : Nat) (h : k < f.sz) : (cs f)[k]? = some (f.c k) := by simp [cs, h]
theorem cs_getD (f : Poly) (k : Nat) : (cs f).getD k 0 = f.c k := by
  rw [List.getD_eq_getElem?_getD]
  rcases Nat.lt_or_ge k f.sz with h | h
  · rw [cs_get f k h]; rfl
  · rw [List.getElem?_eq_none (by simpa using h), above h]; rfl
theorem polL_cs (f : Poly) : polL (cs f) = f := ext_c fun k => cs_getD f k
theorem cs_inj {f g : Poly} (h : cs f = cs g) : f = g := by rw [← polL_cs f, h, polL_cs]
theorem polL_sz (l : List Int) : (polL l).sz ≤ l.length := sz_le fun k hk => by rw [polL_c, List.getD_eq_getElem?_getD, List.getElem?_eq_none hk]; rfl
theorem cut_cs {l : List Int} {n : Nat} (hn : n ≤ l.length) (hz : ∀ k x, n ≤ k → l[k]? = some x → x = 0) (ht : n = 0 ∨ ∃ x, l[n - 1]? = some x ∧ x ≠ 0) : l.take n = cs (polL l) := by
  have hs : (polL l).sz = n := by
    have h1 : (polL l).sz ≤ n := sz_le fun k hk => by
      rw [polL_c, List.getD_eq_getElem?_getD]
      cases e : l[k]? with
      | none => rfl
      | some x => exact hz k x hk e
    rcases ht with rfl | ⟨x, hx, h0⟩
    · omega
    · have := lt_sz (f := polL l) (n := n - 1) (by rw [polL_c, List.getD_eq_getElem?_getD, hx]; exact h0)
      omega
  apply List.ext_getElem?
  intro k
  rw [List.getElem?_take]
  by_cases hk : k < n
  · rw [if_pos hk, cs_get _ _ (by omega), polL_c, List.getD_eq_getElem?_getD]
    obtain ⟨x, hx⟩ : ∃ x, l[k]? = some x := ⟨l[k]'(by omega), by simp⟩
    rw [hx]; rfl
  · rw [if_neg hk, List.getElem?_eq_none (by simp; omega)]
theorem cs_of_last {l : List Int} (h : l = [] ∨ ∃ x, l[l.length - 1]? = some x ∧ x ≠ 0) : cs (polL l) = l := by
  have := cut_cs (l := l) (n := l.length) (Nat.le_refl _) (fun k x hk hx => by rw [List.getElem?_eq_none hk] at hx; cases hx) (by
    rcases h with rfl | h
    · left; rfl
    · exact .inr h)
  rw [← this, List.take_length]
theorem cs_zero : cs 0 = [] := by unfold cs; rw [sz_zero]; rfl
theorem polL_nil : polL [] = 0 := ext_c fun k => by rw [zero_c]; simp [polL_c]
/-- small coefficients -/
abbrev Bz (K : Nat) (l : List Int) : Prop := ∀ z ∈ l, z.natAbs < 2 ^ K
theorem Bz.getD {K : Nat} {l : List Int} (h : Bz K l) (k : Nat) : (l.getD k 0).natAbs < 2 ^ K := by
  rw [List.getD_eq_getElem?_getD]
  cases e : l[k]? with
  | none => simp; exact Nat.pow_pos (by omega)
  | some x => exact h x (List.mem_of_getElem? e)
theorem Bz.cs {K : Nat} {f : Poly} (h : ∀ k, (f.c k).natAbs < 2 ^ K) : Bz K (cs f) := fun z hz => by
  simp only [Go.Abs.cs, List.mem_map] at hz
  obtain ⟨k, _, rfl⟩ := hz
  exact h k
theorem Bz.c {K : Nat} {f : Poly} (h : Bz K (Go.Abs.cs f)) (k : Nat) : (f.c k).natAbs < 2 ^ K := by rw [← cs_getD]; exact h.getD k
end Go.Abs

set_option linter.unusedVariables false
set_option linter.unusedSimpArgs false
namespace Go.Abs
open Go Go.Proofs
set_option maxRecDepth 100000

theorem btrim_fn (l : List Nat) (h : Db 2 l) (hn : l.length ≤ 2 ^ 40) : Fn Try.prog 166 [.d (ib l)] [] (.d (ib (db 2 (vb 2 l)))) [] := by
  refine fn0 (nt := 21) (res := [.tmp 2]) Try.func166 rfl (by decide) rfl rfl rfl rfl ?_
  intro C hP hnt hl
  refine awp_sx prog_ok hP hnt [] [] [] [0] (by kernel_rfl) (G := fun K => K (St.mk [(0, V.d (ib l))] [] 1)) (fun K => by kernel_rfl) ?_
  refine awp_sx prog_ok hP hnt [] [] [] [0, 3] (by kernel_rfl) (G := fun K => K (St.mk [(0, V.d (ib l)), (3, V.d (D.int IntKind.i64 (↑l.length : Int)))] [] 4)) (fun K => by kernel_rfl) ?_
  refine awp_cut (ι := Nat) (fun n => ⟨[(0, .d (ib l)), (3, .d (.int .i64 n))], [], 0⟩) (fun n => n ≤ l.length ∧ (∀ k x, n ≤ k → l[k]? = some x → x = 0) ∧ (n = 0 ∨ ∃ x, l[n - 1]? = some x ∧ x ≠ 0)) ?_ ?_
  · refine awp_block ?_
    refine awp_loop (ι := Nat) (fun n => ⟨[(0, .d (ib l)), (3, .d (.int .i64 n))], [], 0⟩)
      (fun n => n ≤ l.length ∧ (∀ k x, n ≤ k → l[k]? = some x → x = 0)) (fun n => n) l.length [] ⟨Nat.le_refl _, fun k x hk hx => by rw [List.getElem?_eq_none hk] at hx; cases hx⟩ ?_ ?_
    · (constructor <;> simp [hl, envOk, memOk, conv, St.get, St.blk])
    intro n ⟨hle, hz⟩
    refine awp_seq_k fun K hK => ?_
    by_cases h0 : n = 0
    · subst h0
      refine awp_sx prog_ok hP hnt [(8, .bool false)] [] [] [0, 3, 15] (by kernel_rfl) (G := fun K => decide ((↑0 : Int) > (0 : Int)) = false ∧ K (St.mk [(0, V.d (ib l)), (3, V.d (D.int IntKind.i64 (↑0 : Int))), (15, V.d (D.bool false))] [] 10)) (fun K => by kernel_rfl) ?_
      refine ⟨rfl, awp_cond (b := false) rfl nofun fun _ => awp_exit ⟨0, [], ⟨by omega, hz, .inl rfl⟩, ?_⟩⟩
      (constructor <;> simp [hl, envOk, memOk, conv, St.get, St.blk])
    obtain ⟨x, hx⟩ := get_ex (l := l) (i := n - 1) (by omega)
    refine awp_sx prog_ok hP hnt [(8, .bool true), (11, .int .i64 (n - 1 : Nat))] [] [some [.int .i64 x]] [0, 3, 15] (by kernel_rfl) (G := fun K => decide ((↑n : Int) > (0 : Int)) = true ∧ IntKind.i64.wrap ((↑n : Int) - (1 : Int)) = (↑(n - 1) : Int) ∧ ((0 : Int) ≤ (↑(n - 1) : Int) ∧ (↑(n - 1) : Int) < (↑l.length : Int) ∧ ((↑(n - 1) : Int).toNat + 1) * 1 ≤ (ibs l).length) ∧ (List.drop ((↑(n - 1) : Int).toNat * 1) (ibs l))[0]? = some (D.int IntKind.i64 (↑x : Int)) ∧ K (St.mk [(0, V.d (ib l)), (3, V.d (D.int IntKind.i64 (↑n : Int))), (15, V.d (D.bool ((↑x : Int) == (0 : Int))))] [] 10)) (fun K => by kernel_rfl) ?_
    refine ⟨by simp; omega, by rw [w64] <;> omega, ⟨by omega, by omega, by simp; omega⟩, by simp [hx], awp_cond rfl (fun e => awp_skip (hK _ ?_)) (fun e => awp_exit ⟨n, [], ⟨hle, hz, .inr ⟨x, hx, ?_⟩⟩, ?_⟩)⟩
    · simp at e
      refine awp_block ?_
      refine awp_x prog_ok hP hnt [(17, .int .i64 (n - 1 : Nat))] [] [] [0, 3] (by kernel_rfl) (G := fun K => IntKind.i64.wrap ((↑n : Int) - (1 : Int)) = (↑(n - 1) : Int) ∧ K (St.mk [(0, V.d (ib l)), (3, V.d (D.int IntKind.i64 (↑(n - 1) : Int)))] [] 13)) (fun K => by kernel_rfl) ?_
      refine ⟨by rw [w64] <;> omega, n - 1, [], ⟨⟨by omega, fun k y hk hy => ?_⟩, by omega⟩, ?_⟩
      · by_cases e2 : k = n - 1
        · subst e2; rw [hx] at hy; cases hy; omega
        · exact hz k y (by omega) hy
      · (constructor <;> simp [hl, envOk, memOk, conv, St.get, St.blk])
    · simp at e; omega
    · (constructor <;> simp [hl, envOk, memOk, conv, St.get, St.blk])
  intro n ⟨h1, h2, h3⟩
  refine awp_sx prog_ok hP hnt [] [] [] [2] (by kernel_rfl) (G := fun K => ((0 : Int) ≤ (↑n : Int) ∧ (↑n : Int) ≤ (↑l.length : Int)) ∧ K (St.mk [(2, V.d (D.lst (↑n : Int).toNat (List.take ((↑n : Int).toNat * 1) (ibs l))))] [] 4)) (fun K => by kernel_rfl) ?_
  refine ⟨⟨by omega, by omega⟩, awp_ret ⟨.inl rfl, retD ?_⟩⟩
  have := cut_db (by omega) h h1 h2 h3
  rw [← this]
  show V.d _ = V.d _
  rw [ib, List.length_take, Nat.min_eq_left h1, Int.toNat_natCast, Nat.mul_one, ibs_take]

theorem bit_fn (l : List Nat) (i : Nat) : Fn Try.prog 216 [.d (ib l), .d (.int .i64 i)] [] (.d (.int .i64 (l.getD i 0 : Nat))) [] := by
  refine fn0 (nt := 13) (res := [.tmp 4]) Try.func216 rfl (by decide) rfl rfl rfl rfl ?_
  intro C hP hnt hl
  refine awp_sx prog_ok hP hnt [] [] [] [0, 1] (by kernel_rfl) (G := fun K => K (St.mk [(0, V.d (ib l)), (1, V.d (D.int IntKind.i64 (↑i : Int)))] [] 1)) (fun K => by kernel_rfl) ?_
  refine awp_seq_k fun K hK => ?_
  refine awp_sx prog_ok hP hnt [] [] [] [0, 1, 8] (by kernel_rfl) (G := fun K => K (St.mk [(0, V.d (ib l)), (1, V.d (D.int IntKind.i64 (↑i : Int))), (8, V.d (D.bool (decide ((↑i : Int) < (↑l.length : Int)))))] [] 5)) (fun K => by kernel_rfl) ?_
  refine awp_cond rfl (fun e => ?_) (fun e => awp_skip (hK _ ?_))
  · simp at e
    obtain ⟨x, hx⟩ := get_ex (l := l) (i := i) (by omega)
    refine awp_sx prog_ok hP hnt [] [] [some [.int .i64 x]] [4] (by kernel_rfl) (G := fun K => ((0 : Int) ≤ (↑i : Int) ∧ (↑i : Int) < (↑l.length : Int) ∧ ((↑i : Int).toNat + 1) * 1 ≤ (ibs l).length) ∧ (List.drop ((↑i : Int).toNat * 1) (ibs l))[0]? = some (D.int IntKind.i64 (↑x : Int)) ∧ K (St.mk [(4, V.d (D.int IntKind.i64 (↑x : Int)))] [] 10)) (fun K => by kernel_rfl) ?_
    refine ⟨⟨by omega, by omega, by simp; omega⟩, by simp [hx], awp_ret ⟨.inl rfl, retD ?_⟩⟩
    rw [List.getD_eq_getElem?_getD, hx]; rfl
  · simp at e
    refine awp_sx prog_ok hP hnt [] [] [] [4] (by kernel_rfl) (G := fun K => K (St.mk [(4, V.d (D.int IntKind.i64 (0 : Int)))] [] 6)) (fun K => by kernel_rfl) ?_
    refine awp_ret ⟨.inl rfl, retD ?_⟩
    rw [List.getD_eq_getElem?_getD, List.getElem?_eq_none (by omega)]; rfl

theorem tmodN (a b : Nat) : (a : Int).tmod (b : Int) = ((a % b : Nat) : Int) := (Int.ofNat_tmod a b).symm
theorem tdivN (a b : Nat) (h : a / b ≤ 9223372036854775807) : IntKind.i64.wrap ((a : Int).tdiv (b : Int)) = ((a / b : Nat) : Int) := by
  rw [← Int.ofNat_tdiv]
  generalize a / b = q at *
  rw [w64] <;> omega
theorem vb_snoc (b : Nat) (o : List Nat) (s : Nat) : vb b (o ++ [s]) = vb b o + b ^ o.length * s := by rw [vb_append]; simp [vb]
theorem vb_of_take {b : Nat} {l : List Nat} {n : Nat} (h : l.length ≤ n) : vb b (l.take n) = vb b l := by rw [List.take_of_length_le h]
theorem db_snoc {b : Nat} {o : List Nat} {s : Nat} (h : Db b o) (hs : s < b) : Db b (o ++ [s]) := fun d hd => by
  rcases List.mem_append.1 hd with h1 | h1
  · exact h d h1
  · simp at h1; omega

theorem badd_fn (l m : List Nat) (hl1 : Db 2 l) (hm1 : Db 2 m) (hln : l.length ≤ 2 ^ 39) (hmn : m.length ≤ 2 ^ 39) : Fn Try.prog 217 [.d (ib l), .d (ib m)] [] (.d (ib (db 2 (vb 2 l + vb 2 m)))) [] := by
  refine fn0 (nt := 43) (res := [.tmp 4]) Try.func217 rfl (by decide) rfl rfl rfl rfl ?_
  intro C hP hnt hl
  refine awp_sx prog_ok hP hnt [] [] [] [0, 1] (by kernel_rfl) (G := fun K => K (St.mk [(0, V.d (ib l)), (1, V.d (ib m))] [] 1)) (fun K => by kernel_rfl) ?_
  refine awp_sx prog_ok hP hnt [] [] [] [0, 1, 5] (by kernel_rfl) (G := fun K => K (St.mk [(0, V.d (ib l)), (1, V.d (ib m)), (5, V.nil)] [] 2)) (fun K => by kernel_rfl) ?_
  refine awp_sx prog_ok hP hnt [] [] [] [0, 1, 5, 6] (by kernel_rfl) (G := fun K => K (St.mk [(0, V.d (ib l)), (1, V.d (ib m)), (5, V.nil), (6, V.d (D.int IntKind.i64 (0 : Int)))] [] 3)) (fun K => by kernel_rfl) ?_
  refine awp_cut (ι := List Nat) (fun o => ⟨[(5, .own 0 0 o.length 1)], [(0, some ⟨ibs o, true⟩)], 1⟩) (fun o => Db 2 o ∧ o.length ≤ 2 ^ 40 ∧ vb 2 o = vb 2 l + vb 2 m) ?_ ?_
  · refine awp_sx prog_ok hP hnt [] [] [] [0, 1, 5, 6, 7] (by kernel_rfl) (G := fun K => K (St.mk [(0, V.d (ib l)), (1, V.d (ib m)), (5, V.nil), (6, V.d (D.int IntKind.i64 (0 : Int))), (7, V.d (D.int IntKind.i64 (0 : Int)))] [] 4)) (fun K => by kernel_rfl) ?_
    refine awp_block ?_
    refine awp_loop (ι := List Nat × Nat) (fun p => ⟨[(0, .d (ib l)), (1, .d (ib m)), (5, .own 0 0 p.1.length 1), (6, .d (.int .i64 p.2)), (7, .d (.int .i64 p.1.length))], [(0, some ⟨ibs p.1, true⟩)], 1⟩)
      (fun p => Db 2 p.1 ∧ p.2 ≤ 1 ∧ p.1.length ≤ max l.length m.length + 1 ∧ (p.1.length = max l.length m.length + 1 → p.2 = 0) ∧ vb 2 p.1 + 2 ^ p.1.length * p.2 = vb 2 (l.take p.1.length) + vb 2 (m.take p.1.length)) (fun p => max l.length m.length + 1 - p.1.length) ([], 0) [] ⟨(fun d hd => by cases hd), by simp, by simp, by simp, by simp [vb]⟩ ?_ ?_
    · (constructor <;> simp [hl, envOk, memOk, conv, St.get, St.blk, ibs, fm])
    intro ⟨o, c⟩ ⟨ho, hc, hlen, hend, hv⟩
    simp only at ho hc hlen hend hv ⊢
    refine awp_seq_k fun K hK => ?_
    refine awp_cut (ι := Unit) (fun _ => ⟨[(0, .d (ib l)), (1, .d (ib m)), (5, .own 0 0 o.length 1), (6, .d (.int .i64 c)), (7, .d (.int .i64 o.length)), (22, .d (.bool (decide (o.length < l.length ∨ o.length < m.length ∨ 0 < c))))], [(0, some ⟨ibs o, true⟩)], 1⟩) (fun _ => True) ?_ ?_
    · by_cases g1 : o.length < l.length
      · refine awp_x prog_ok hP hnt [(12, .bool true)] [] [] [0, 1, 5, 6, 7, 22] (by kernel_rfl) (G := fun K => decide ((↑o.length : Int) < (↑l.length : Int)) = true ∧ K (St.mk [(0, V.d (ib l)), (1, V.d (ib m)), (5, V.own 0 0 o.length 1), (6, V.d (D.int IntKind.i64 (↑c : Int))), (7, V.d (D.int IntKind.i64 (↑o.length : Int))), (22, V.d (D.bool true))] [(0, some (Blk.mk (ibs o) true))] 15)) (fun K => by kernel_rfl) ?_
        refine ⟨by simp; omega, (), [(0, 0)], trivial, ?_⟩
        (constructor <;> simp [hl, envOk, memOk, conv, St.get, St.blk, g1])
      · by_cases g2 : o.length < m.length
        · refine awp_x prog_ok hP hnt [(12, .bool false), (17, .bool true)] [] [] [0, 1, 5, 6, 7, 22] (by kernel_rfl) (G := fun K => decide ((↑o.length : Int) < (↑l.length : Int)) = false ∧ decide ((↑o.length : Int) < (↑m.length : Int)) = true ∧ K (St.mk [(0, V.d (ib l)), (1, V.d (ib m)), (5, V.own 0 0 o.length 1), (6, V.d (D.int IntKind.i64 (↑c : Int))), (7, V.d (D.int IntKind.i64 (↑o.length : Int))), (22, V.d (D.bool true))] [(0, some (Blk.mk (ibs o) true))] 15)) (fun K => by kernel_rfl) ?_
          refine ⟨by simp; omega, by simp; omega, (), [(0, 0)], trivial, ?_⟩
          (constructor <;> simp [hl, envOk, memOk, conv, St.get, St.blk, g1, g2])
        · refine awp_x prog_ok hP hnt [(12, .bool false), (17, .bool false)] [] [] [0, 1, 5, 6, 7, 22] (by kernel_rfl) (G := fun K => decide ((↑o.length : Int) < (↑l.length : Int)) = false ∧ decide ((↑o.length : Int) < (↑m.length : Int)) = false ∧ K (St.mk [(0, V.d (ib l)), (1, V.d (ib m)), (5, V.own 0 0 o.length 1), (6, V.d (D.int IntKind.i64 (↑c : Int))), (7, V.d (D.int IntKind.i64 (↑o.length : Int))), (22, V.d (D.bool (decide ((↑c : Int) > (0 : Int)))))] [(0, some (Blk.mk (ibs o) true))] 15)) (fun K => by kernel_rfl) ?_
          refine ⟨by simp; omega, by simp; omega, (), [(0, 0)], trivial, ?_⟩
          (constructor <;> simp [hl, envOk, memOk, conv, St.get, St.blk, g1, g2])
    intro _ _
    refine awp_cond rfl (fun e => awp_skip (hK _ ?_)) (fun e => awp_exit ⟨o, [(0, 0)], ?_, ?_⟩)
    · simp at e
      refine awp_seq_k fun K2 hK2 => ?_
      refine awp_block ?_
      obtain ⟨x, hx⟩ : ∃ x, x = l.getD o.length 0 := ⟨_, rfl⟩
      obtain ⟨y, hy⟩ : ∃ y, y = m.getD o.length 0 := ⟨_, rfl⟩
      have hx2 : x < 2 := hx ▸ db_getD (by omega) hl1 _
      have hy2 : y < 2 := hy ▸ db_getD (by omega) hm1 _
      refine awp_sx prog_ok hP hnt [(31, .int .i64 (x + y : Nat)), (33, .int .i64 (x + y + c : Nat))] [.val (.d (.int .i64 x)), .val (.d (.int .i64 y))] [] [0, 1, 5, 7, 8] (by kernel_rfl) (G := fun K => Fn Try.prog 216 [V.d (ib l), V.d (D.int IntKind.i64 (↑o.length : Int))] [] (V.d (D.int IntKind.i64 (↑x : Int))) [] ∧ Fn Try.prog 216 [V.d (ib m), V.d (D.int IntKind.i64 (↑o.length : Int))] [] (V.d (D.int IntKind.i64 (↑y : Int))) [] ∧ IntKind.i64.wrap ((↑x : Int) + (↑y : Int)) = (↑(x + y) : Int) ∧ IntKind.i64.wrap ((↑(x + y) : Int) + (↑c : Int)) = (↑(x + y + c) : Int) ∧ K (St.mk [(0, V.d (ib l)), (1, V.d (ib m)), (5, V.own 0 0 o.length 1), (7, V.d (D.int IntKind.i64 (↑o.length : Int))), (8, V.d (D.int IntKind.i64 (↑(x + y + c) : Int)))] [(0, some (Blk.mk (ibs o) true))] 11)) (fun K => by kernel_rfl) ?_
      refine ⟨by have := bit_fn l o.length; rwa [← hx] at this, by have := bit_fn m o.length; rwa [← hy] at this, by rw [w64] <;> omega, by rw [w64] <;> omega, ?_⟩
      refine awp_sx prog_ok hP hnt [(36, .int .i64 ((x + y + c) % 2 : Nat))] [] [] [0, 1, 5, 7, 8] (by kernel_rfl) (G := fun K => (2 : Int) ≠ (0 : Int) ∧ (↑(x + y + c) : Int).tmod (2 : Int) = (↑((x + y + c) % 2) : Int) ∧ 1 = 1 ∧ ((ibs o).length = o.length * 1 ∧ (o.length + 1) * 8 ≤ 2 ^ 47) ∧ K (St.mk [(0, V.d (ib l)), (1, V.d (ib m)), (5, V.own 15 0 (o.length + 1) 1), (7, V.d (D.int IntKind.i64 (↑o.length : Int))), (8, V.d (D.int IntKind.i64 (↑(x + y + c) : Int)))] [(0, none), (15, some (Blk.mk (ibs o ++ setCells (zeros 1 (TI.mk (Kind.int IntKind.i64) 1 8 [D.int IntKind.i64 (0 : Int)]).zero) 0 [D.int IntKind.i64 (↑((x + y + c) % 2) : Int)]) true))] 17)) (fun K => by kernel_rfl) ?_
      refine ⟨by decide, tmodN _ _, rfl, ⟨by simp, by omega⟩, ?_⟩
      refine awp_x prog_ok hP hnt [(40, .int .i64 ((x + y + c) / 2 : Nat))] [] [] [0, 1, 5, 6, 7] (by kernel_rfl) (G := fun K => (2 : Int) ≠ (0 : Int) ∧ IntKind.i64.wrap ((↑(x + y + c) : Int).tdiv (2 : Int)) = (↑((x + y + c) / 2) : Int) ∧ K (St.mk [(0, V.d (ib l)), (1, V.d (ib m)), (5, V.own 15 0 (o.length + 1) 1), (7, V.d (D.int IntKind.i64 (↑o.length : Int))), (6, V.d (D.int IntKind.i64 (↑((x + y + c) / 2) : Int)))] [(0, none), (15, some (Blk.mk (ibs o ++ setCells (zeros 1 (TI.mk (Kind.int IntKind.i64) 1 8 [D.int IntKind.i64 (0 : Int)]).zero) 0 [D.int IntKind.i64 (↑((x + y + c) % 2) : Int)]) true))] 20)) (fun K => by kernel_rfl) ?_
      refine ⟨by decide, tdivN (x + y + c) 2 (by omega), hK2 _ ?_⟩
      refine awp_x prog_ok hP hnt [(24, .int .i64 (o.length + 1 : Nat))] [] [] [0, 1, 5, 6, 7] (by kernel_rfl) (G := fun K => IntKind.i64.wrap ((↑o.length : Int) + (1 : Int)) = (↑(o.length + 1) : Int) ∧ K (St.mk [(0, V.d (ib l)), (1, V.d (ib m)), (5, V.own 15 0 (o.length + 1) 1), (7, V.d (D.int IntKind.i64 (↑(o.length + 1) : Int))), (6, V.d (D.int IntKind.i64 (↑((x + y + c) / 2) : Int)))] [(0, none), (15, some (Blk.mk (ibs o ++ setCells (zeros 1 (TI.mk (Kind.int IntKind.i64) 1 8 [D.int IntKind.i64 (0 : Int)]).zero) 0 [D.int IntKind.i64 (↑((x + y + c) % 2) : Int)]) true))] 23)) (fun K => by kernel_rfl) ?_
      have happ := ibs_app o ((x + y + c) % 2)
      refine ⟨by rw [w64] <;> omega, (o ++ [(x + y + c) % 2], (x + y + c) / 2), [(0, 15)], ⟨⟨db_snoc ho (by omega), by simp only; omega, by simp; omega, ?_, ?_⟩, by simp; omega⟩, ?_⟩
      · simp only [List.length_append, List.length_cons, List.length_nil]
        intro e2
        have e3 : x = 0 := by rw [hx, List.getD_eq_getElem?_getD, List.getElem?_eq_none (by omega)]; rfl
        have e4 : y = 0 := by rw [hy, List.getD_eq_getElem?_getD, List.getElem?_eq_none (by omega)]; rfl
        omega
      · simp only [List.length_append, List.length_cons, List.length_nil, vb_snoc, vb_take_D, Nat.zero_add, Nat.pow_succ]
        rw [← hx, ← hy]
        generalize hB : 2 ^ o.length = B at *
        have e5 : B * (x + y + c) = B * (2 * ((x + y + c) / 2) + (x + y + c) % 2) := by rw [Nat.div_add_mod]
        generalize (x + y + c) / 2 = d at *
        generalize (x + y + c) % 2 = s at *
        grind
      · (constructor <;> simp [hl, envOk, memOk, conv, St.get, St.blk, ← happ, setCells, zeros])
    · simp at e
      have h1 := vb_of_take (b := 2) (l := l) (n := o.length) (by omega)
      have h2 := vb_of_take (b := 2) (l := m) (n := o.length) (by omega)
      refine ⟨ho, by omega, ?_⟩
      have hc0 : c = 0 := by omega
      rw [hc0] at hv
      omega
    · (constructor <;> simp [hl, envOk, memOk, conv, St.get, St.blk])
  intro o ⟨ho, hlen, hv⟩
  refine awp_sx prog_ok hP hnt [] [.val (.d (ib (db 2 (vb 2 o))))] [] [4] (by kernel_rfl) (G := fun K => Fn Try.prog 166 [V.d (D.lst o.length (List.take (o.length * 1) (List.drop 0 (ibs o))))] [] (V.d (ib (db 2 (vb 2 o)))) [] ∧ K (St.mk [(4, V.d (ib (db 2 (vb 2 o))))] [(0, some (Blk.mk (ibs o) false))] 4)) (fun K => by kernel_rfl) ?_
  refine ⟨?_, awp_ret ⟨.inl rfl, retD (by rw [hv]; rfl)⟩⟩
  have := own_fm i1_len (l := o) rfl
  rw [Nat.mul_one] at this
  rw [Nat.mul_one, this]
  exact btrim_fn o ho hlen
end Go.Abs

set_option linter.unusedVariables false
set_option linter.unusedSimpArgs false
namespace Go.Abs
open Go Go.Proofs
set_option maxRecDepth 100000

theorem vb_take_small {l : List Nat} {n : Nat} (h : vb 2 l < 2 ^ n) : vb 2 (l.take n) = vb 2 l := by
  rcases Nat.lt_or_ge n l.length with h1 | h1
  · have := vb_append (b := 2) (l.take n) (l.drop n)
    rw [List.take_append_drop, List.length_take, Nat.min_eq_left (by omega)] at this
    have h2 : vb 2 (l.drop n) = 0 := by
      apply Classical.byContradiction
      intro h3
      have : 2 ^ n * 1 ≤ 2 ^ n * vb 2 (l.drop n) := Nat.mul_le_mul_left _ (by omega)
      omega
    rw [h2] at this
    omega
  · rw [List.take_of_length_le h1]

theorem bsub_fn (l m : List Nat) (hl1 : Db 2 l) (hm1 : Db 2 m) (hln : l.length ≤ 2 ^ 39) (hle : vb 2 m ≤ vb 2 l) : Fn Try.prog 218 [.d (ib l), .d (ib m)] [] (.d (ib (db 2 (vb 2 l - vb 2 m)))) [] := by
  refine fn0 (nt := 34) (res := [.tmp 4]) Try.func218 rfl (by decide) rfl rfl rfl rfl ?_
  intro C hP hnt hl
  refine awp_sx prog_ok hP hnt [] [] [] [0, 1] (by kernel_rfl) (G := fun K => K (St.mk [(0, V.d (ib l)), (1, V.d (ib m))] [] 1)) (fun K => by kernel_rfl) ?_
  refine awp_sx prog_ok hP hnt [] [] [] [0, 1, 5] (by kernel_rfl) (G := fun K => K (St.mk [(0, V.d (ib l)), (1, V.d (ib m)), (5, V.nil)] [] 2)) (fun K => by kernel_rfl) ?_
  refine awp_sx prog_ok hP hnt [] [] [] [0, 1, 5, 6] (by kernel_rfl) (G := fun K => K (St.mk [(0, V.d (ib l)), (1, V.d (ib m)), (5, V.nil), (6, V.d (D.int IntKind.i64 (0 : Int)))] [] 3)) (fun K => by kernel_rfl) ?_
  refine awp_cut (ι := List Nat) (fun o => ⟨[(5, .own 0 0 o.length 1)], [(0, some ⟨ibs o, true⟩)], 1⟩) (fun o => Db 2 o ∧ o.length ≤ 2 ^ 40 ∧ vb 2 o = vb 2 l - vb 2 m) ?_ ?_
  · refine awp_sx prog_ok hP hnt [] [] [] [0, 1, 5, 6, 7] (by kernel_rfl) (G := fun K => K (St.mk [(0, V.d (ib l)), (1, V.d (ib m)), (5, V.nil), (6, V.d (D.int IntKind.i64 (0 : Int))), (7, V.d (D.int IntKind.i64 (0 : Int)))] [] 4)) (fun K => by kernel_rfl) ?_
    refine awp_block ?_
    refine awp_loop (ι := List Nat × Nat) (fun p => ⟨[(0, .d (ib l)), (1, .d (ib m)), (5, .own 0 0 p.1.length 1), (6, .d (.int .i64 p.2)), (7, .d (.int .i64 p.1.length))], [(0, some ⟨ibs p.1, true⟩)], 1⟩)
      (fun p => Db 2 p.1 ∧ p.2 ≤ 1 ∧ p.1.length ≤ l.length ∧ vb 2 p.1 + vb 2 (m.take p.1.length) = vb 2 (l.take p.1.length) + 2 ^ p.1.length * p.2) (fun p => l.length - p.1.length) ([], 0) [] ⟨(fun d hd => by cases hd), by simp, by simp, by simp [vb]⟩ ?_ ?_
    · (constructor <;> simp [hl, envOk, memOk, conv, St.get, St.blk, ibs, fm])
    intro ⟨o, c⟩ ⟨ho, hc, hlen, hv⟩
    simp only at ho hc hlen hv ⊢
    refine awp_seq_k fun K hK => ?_
    refine awp_sx prog_ok hP hnt [] [] [] [0, 1, 5, 6, 7, 12] (by kernel_rfl) (G := fun K => K (St.mk [(0, V.d (ib l)), (1, V.d (ib m)), (5, V.own 0 0 o.length 1), (6, V.d (D.int IntKind.i64 (↑c : Int))), (7, V.d (D.int IntKind.i64 (↑o.length : Int))), (12, V.d (D.bool (decide ((↑o.length : Int) < (↑l.length : Int)))))] [(0, some (Blk.mk (ibs o) true))] 5)) (fun K => by kernel_rfl) ?_
    refine awp_cond rfl (fun e => awp_skip (hK _ ?_)) (fun e => awp_exit ⟨o, [(0, 0)], ?_, ?_⟩)
    · simp at e
      refine awp_seq_k fun K2 hK2 => ?_
      refine awp_block ?_
      obtain ⟨x, hx⟩ : ∃ x, x = l.getD o.length 0 := ⟨_, rfl⟩
      obtain ⟨y, hy⟩ : ∃ y, y = m.getD o.length 0 := ⟨_, rfl⟩
      have hx2 : x < 2 := hx ▸ db_getD (by omega) hl1 _
      have hy2 : y < 2 := hy ▸ db_getD (by omega) hm1 _
      refine awp_sx prog_ok hP hnt [(21, .int .i64 (x - y : Int)), (23, .int .i64 (x - y - c : Int))] [.val (.d (.int .i64 x)), .val (.d (.int .i64 y))] [] [0, 1, 5, 7, 8] (by kernel_rfl) (G := fun K => Fn Try.prog 216 [V.d (ib l), V.d (D.int IntKind.i64 (↑o.length : Int))] [] (V.d (D.int IntKind.i64 (↑x : Int))) [] ∧ Fn Try.prog 216 [V.d (ib m), V.d (D.int IntKind.i64 (↑o.length : Int))] [] (V.d (D.int IntKind.i64 (↑y : Int))) [] ∧ IntKind.i64.wrap ((↑x : Int) - (↑y : Int)) = (↑x : Int) - (↑y : Int) ∧ IntKind.i64.wrap ((↑x : Int) - (↑y : Int) - (↑c : Int)) = (↑x : Int) - (↑y : Int) - (↑c : Int) ∧ K (St.mk [(0, V.d (ib l)), (1, V.d (ib m)), (5, V.own 0 0 o.length 1), (7, V.d (D.int IntKind.i64 (↑o.length : Int))), (8, V.d (D.int IntKind.i64 ((↑x : Int) - (↑y : Int) - (↑c : Int))))] [(0, some (Blk.mk (ibs o) true))] 15)) (fun K => by kernel_rfl) ?_
      refine ⟨by have := bit_fn l o.length; rwa [← hx] at this, by have := bit_fn m o.length; rwa [← hy] at this, by rw [w64] <;> omega, by rw [w64] <;> omega, ?_⟩
      refine awp_sx prog_ok hP hnt [] [] [] [0, 1, 5, 6, 7, 8] (by kernel_rfl) (G := fun K => K (St.mk [(0, V.d (ib l)), (1, V.d (ib m)), (5, V.own 0 0 o.length 1), (7, V.d (D.int IntKind.i64 (↑o.length : Int))), (8, V.d (D.int IntKind.i64 ((↑x : Int) - (↑y : Int) - (↑c : Int)))), (6, V.d (D.int IntKind.i64 (0 : Int)))] [(0, some (Blk.mk (ibs o) true))] 16)) (fun K => by kernel_rfl) ?_
      refine awp_cut (ι := Nat × Nat) (fun q => ⟨[(0, .d (ib l)), (1, .d (ib m)), (5, .own 0 0 o.length 1), (6, .d (.int .i64 q.2)), (7, .d (.int .i64 o.length)), (8, .d (.int .i64 q.1))], [(0, some ⟨ibs o, true⟩)], 1⟩) (fun q => q.1 < 2 ∧ q.2 ≤ 1 ∧ q.1 + y + c = x + 2 * q.2) ?_ ?_
      · refine awp_sx prog_ok hP hnt [] [] [] [0, 1, 5, 6, 7, 8, 25] (by kernel_rfl) (G := fun K => K (St.mk [(0, V.d (ib l)), (1, V.d (ib m)), (5, V.own 0 0 o.length 1), (7, V.d (D.int IntKind.i64 (↑o.length : Int))), (8, V.d (D.int IntKind.i64 ((↑x : Int) - (↑y : Int) - (↑c : Int)))), (6, V.d (D.int IntKind.i64 (0 : Int))), (25, V.d (D.bool (decide ((↑x : Int) - (↑y : Int) - (↑c : Int) < (0 : Int)))))] [(0, some (Blk.mk (ibs o) true))] 18)) (fun K => by kernel_rfl) ?_
        refine awp_cond rfl (fun e => ?_) (fun e => awp_skip ⟨(x - y - c, 0), [(0, 0)], ?_, ?_⟩)
        · simp at e
          refine awp_sx prog_ok hP hnt [(27, .int .i64 (x + 2 - y - c : Nat))] [] [] [0, 1, 5, 7, 8] (by kernel_rfl) (G := fun K => IntKind.i64.wrap ((↑x : Int) - (↑y : Int) - (↑c : Int) + (2 : Int)) = (↑(x + 2 - y - c) : Int) ∧ K (St.mk [(0, V.d (ib l)), (1, V.d (ib m)), (5, V.own 0 0 o.length 1), (7, V.d (D.int IntKind.i64 (↑o.length : Int))), (8, V.d (D.int IntKind.i64 (↑(x + 2 - y - c) : Int)))] [(0, some (Blk.mk (ibs o) true))] 21)) (fun K => by kernel_rfl) ?_
          refine ⟨by rw [w64] <;> omega, ?_⟩
          refine awp_x prog_ok hP hnt [] [] [] [0, 1, 5, 6, 7, 8] (by kernel_rfl) (G := fun K => K (St.mk [(0, V.d (ib l)), (1, V.d (ib m)), (5, V.own 0 0 o.length 1), (7, V.d (D.int IntKind.i64 (↑o.length : Int))), (8, V.d (D.int IntKind.i64 (↑(x + 2 - y - c) : Int))), (6, V.d (D.int IntKind.i64 (1 : Int)))] [(0, some (Blk.mk (ibs o) true))] 22)) (fun K => by kernel_rfl) ?_
          refine ⟨(x + 2 - y - c, 1), [(0, 0)], by simp only; omega, ?_⟩
          (constructor <;> simp [hl, envOk, memOk, conv, St.get, St.blk])
        · simp at e; simp only; omega
        · simp at e
          have : ((x - y - c : Nat) : Int) = x - y - c := by omega
          (constructor <;> simp [hl, envOk, memOk, conv, St.get, St.blk, this])
      intro ⟨s, c'⟩ ⟨h1, h2, h3⟩
      simp only at h1 h2 h3 ⊢
      refine awp_x prog_ok hP hnt [] [] [] [0, 1, 5, 6, 7] (by kernel_rfl) (G := fun K => 1 = 1 ∧ ((ibs o).length = o.length * 1 ∧ (o.length + 1) * 8 ≤ 2 ^ 47) ∧ K (St.mk [(0, V.d (ib l)), (1, V.d (ib m)), (5, V.own 4 0 (o.length + 1) 1), (6, V.d (D.int IntKind.i64 (↑c' : Int))), (7, V.d (D.int IntKind.i64 (↑o.length : Int)))] [(0, none), (4, some (Blk.mk (ibs o ++ setCells (zeros 1 (TI.mk (Kind.int IntKind.i64) 1 8 [D.int IntKind.i64 (0 : Int)]).zero) 0 [D.int IntKind.i64 (↑s : Int)]) true))] 6)) (fun K => by kernel_rfl) ?_
      have happ := ibs_app o s
      refine ⟨rfl, ⟨by simp, by omega⟩, hK2 _ ?_⟩
      refine awp_x prog_ok hP hnt [(14, .int .i64 (o.length + 1 : Nat))] [] [] [0, 1, 5, 6, 7] (by kernel_rfl) (G := fun K => IntKind.i64.wrap ((↑o.length : Int) + (1 : Int)) = (↑(o.length + 1) : Int) ∧ K (St.mk [(0, V.d (ib l)), (1, V.d (ib m)), (5, V.own 4 0 (o.length + 1) 1), (6, V.d (D.int IntKind.i64 (↑c' : Int))), (7, V.d (D.int IntKind.i64 (↑(o.length + 1) : Int)))] [(0, none), (4, some (Blk.mk (ibs o ++ setCells (zeros 1 (TI.mk (Kind.int IntKind.i64) 1 8 [D.int IntKind.i64 (0 : Int)]).zero) 0 [D.int IntKind.i64 (↑s : Int)]) true))] 9)) (fun K => by kernel_rfl) ?_
      refine ⟨by rw [w64] <;> omega, (o ++ [s], c'), [(0, 4)], ⟨⟨db_snoc ho h1, h2, by simp; omega, ?_⟩, by simp; omega⟩, ?_⟩
      · simp only [List.length_append, List.length_cons, List.length_nil, vb_snoc, vb_take_D, Nat.zero_add, Nat.pow_succ]
        rw [← hx, ← hy]
        generalize hB : 2 ^ o.length = B at *
        have e5 : B * (s + y + c) = B * (x + 2 * c') := by rw [h3]
        grind
      · (constructor <;> simp [hl, envOk, memOk, conv, St.get, St.blk, ← happ, setCells, zeros])
    · simp at e
      have hol : o.length = l.length := by omega
      rw [hol] at hv
      have hvl := vb_lt (b := 2) (by omega) hl1
      rw [List.take_length, vb_take_small (Nat.lt_of_le_of_lt hle hvl)] at hv
      have hvo := vb_lt (b := 2) (by omega) ho
      rw [hol] at hvo
      have hc0 : c = 0 := by
        apply Classical.byContradiction
        intro h1
        have : c = 1 := by omega
        subst this
        omega
      subst hc0
      refine ⟨ho, by omega, by omega⟩
    · (constructor <;> simp [hl, envOk, memOk, conv, St.get, St.blk])
  intro o ⟨ho, hlen, hv⟩
  refine awp_sx prog_ok hP hnt [] [.val (.d (ib (db 2 (vb 2 o))))] [] [4] (by kernel_rfl) (G := fun K => Fn Try.prog 166 [V.d (D.lst o.length (List.take (o.length * 1) (List.drop 0 (ibs o))))] [] (V.d (ib (db 2 (vb 2 o)))) [] ∧ K (St.mk [(4, V.d (ib (db 2 (vb 2 o))))] [(0, some (Blk.mk (ibs o) false))] 4)) (fun K => by kernel_rfl) ?_
  refine ⟨?_, awp_ret ⟨.inl rfl, retD (by rw [hv]; rfl)⟩⟩
  have := own_fm i1_len (l := o) rfl
  rw [Nat.mul_one] at this
  rw [Nat.mul_one, this]
  exact btrim_fn o ho hlen

theorem vb_ext {l m : List Nat} (h : ∀ k, l.getD k 0 = m.getD k 0) : vb 2 l = vb 2 m := by
  induction l generalizing m with
  | nil =>
    have h0 : m = List.replicate m.length 0 := by
      apply List.ext_getElem?
      intro k
      by_cases hk : k < m.length
      · have := h k
        obtain ⟨x, hx⟩ := get_ex hk
        rw [List.getD_eq_getElem?_getD, List.getD_eq_getElem?_getD, hx] at this
        simp at this
        rw [hx, List.getElem?_replicate, if_pos hk, ← this]
      · rw [List.getElem?_eq_none (by omega), List.getElem?_eq_none (by simp; omega)]
    rw [h0, vb_zeros]; rfl
  | cons d l ih =>
    cases m with
    | nil =>
      have h1 := h 0
      have h2 := ih (m := []) (fun k => by simpa using h (k + 1))
      simp [vb] at h1 h2 ⊢
      omega
    | cons e m =>
      have h1 := h 0
      have h2 := ih (m := m) (fun k => by simpa using h (k + 1))
      simp [vb] at h1 h2 ⊢
      omega
theorem vb_split (l : List Nat) (i : Nat) : vb 2 l = vb 2 (l.take i) + 2 ^ i * (l.getD i 0 + 2 * vb 2 (l.drop (i + 1))) := by
  by_cases h : i < l.length
  · have := vb_append (b := 2) (l.take i) (l.drop i)
    rw [List.take_append_drop, List.length_take, Nat.min_eq_left (by omega)] at this
    rw [this, List.drop_eq_getElem_cons h, vb]
    simp [h]
  · rw [List.take_of_length_le (by omega), List.drop_eq_nil_of_le (by omega), List.getD_eq_getElem?_getD, List.getElem?_eq_none (by omega)]; simp [vb]
theorem vb_top {l m : List Nat} {i : Nat} (hl : Db 2 l) (hm : Db 2 m) (h : ∀ k, i < k → l.getD k 0 = m.getD k 0) (hi : m.getD i 0 < l.getD i 0) : vb 2 m < vb 2 l := by
  rw [vb_split l i, vb_split m i]
  have e : vb 2 (l.drop (i + 1)) = vb 2 (m.drop (i + 1)) := vb_ext fun k => by
    have := h (i + 1 + k) (by omega)
    simpa [List.getD_eq_getElem?_getD, List.getElem?_drop] using this
  have h1 : vb 2 (m.take i) < 2 ^ i := Nat.lt_of_lt_of_le (vb_lt (by omega) (db_take hm i)) (Nat.pow_le_pow_right (by omega) (by rw [List.length_take]; omega))
  rw [e]
  have : 2 ^ i * (m.getD i 0 + 2 * vb 2 (m.drop (i + 1)) + 1) ≤ 2 ^ i * (l.getD i 0 + 2 * vb 2 (m.drop (i + 1))) := Nat.mul_le_mul_left _ (by omega)
  rw [Nat.mul_add] at this
  omega

theorem bcmp_fn (l m : List Nat) (hl1 : Db 2 l) (hm1 : Db 2 m) (hln : l.length ≤ 2 ^ 40) (hmn : m.length ≤ 2 ^ 40) : Fn Try.prog 167 [.d (ib l), .d (ib m)] [] (.d (.int .i64 (cmpI (vb 2 l) (vb 2 m)))) [] := by
  refine fn0 (nt := 30) (res := [.tmp 4]) Try.func167 rfl (by decide) rfl rfl rfl rfl ?_
  intro C hP hnt hl
  obtain ⟨N, hN⟩ : ∃ N, N = max l.length m.length := ⟨_, rfl⟩
  refine awp_sx prog_ok hP hnt [] [] [] [0, 1] (by kernel_rfl) (G := fun K => K (St.mk [(0, V.d (ib l)), (1, V.d (ib m))] [] 1)) (fun K => by kernel_rfl) ?_
  refine awp_cut (ι := Unit) (fun _ => ⟨[], [], 0⟩) (fun _ => vb 2 l = vb 2 m) ?_ ?_
  · refine awp_sx prog_ok hP hnt [(11, .int .i64 (N - 1 : Int))] [] [] [0, 1, 5] (by kernel_rfl) (G := fun K => IntKind.i64.wrap ((if (↑m.length : Int) > (↑l.length : Int) then (↑m.length : Int) else (↑l.length : Int)) - (1 : Int)) = (↑N : Int) - (1 : Int) ∧ K (St.mk [(0, V.d (ib l)), (1, V.d (ib m)), (5, V.d (D.int IntKind.i64 ((↑N : Int) - (1 : Int))))] [] 8)) (fun K => by kernel_rfl) ?_
    refine ⟨by rw [w64] <;> split <;> omega, ?_⟩
    refine awp_block ?_
    refine awp_loop (ι := Nat) (fun n => ⟨[(0, .d (ib l)), (1, .d (ib m)), (5, .d (.int .i64 (n - 1 : Int)))], [], 0⟩)
      (fun n => n ≤ N ∧ ∀ k, n ≤ k → l.getD k 0 = m.getD k 0) (fun n => n) N [] ⟨Nat.le_refl _, fun k hk => by rw [List.getD_eq_getElem?_getD, List.getD_eq_getElem?_getD, List.getElem?_eq_none (by omega), List.getElem?_eq_none (by omega)]⟩ ?_ ?_
    · (constructor <;> simp [hl, envOk, memOk, conv, St.get, St.blk])
    intro n ⟨hn, hz⟩
    refine awp_seq_k fun K hK => ?_
    refine awp_sx prog_ok hP hnt [] [] [] [0, 1, 5, 13] (by kernel_rfl) (G := fun K => K (St.mk [(0, V.d (ib l)), (1, V.d (ib m)), (5, V.d (D.int IntKind.i64 ((↑n : Int) - (1 : Int)))), (13, V.d (D.bool (decide ((↑n : Int) - (1 : Int) ≥ (0 : Int)))))] [] 2)) (fun K => by kernel_rfl) ?_
    refine awp_cond rfl (fun e => awp_skip (hK _ ?_)) (fun e => awp_exit ⟨(), [], ?_, ?_⟩)
    · simp at e
      obtain ⟨i, rfl⟩ : ∃ i, n = i + 1 := ⟨n - 1, by omega⟩
      have ei : ((i + 1 : Nat) : Int) - 1 = i := by omega
      rw [ei]
      refine awp_seq_k fun K2 hK2 => ?_
      refine awp_block ?_
      have b1 := bit_fn l i
      have b2 := bit_fn m i
      have hx2 := db_getD (b := 2) (by omega) hl1 i
      have hy2 := db_getD (b := 2) (by omega) hm1 i
      have ht1 := vb_top (l := l) (m := m) (i := i) hl1 hm1 (fun k hk => hz k (by omega))
      have ht2 := vb_top (l := m) (m := l) (i := i) hm1 hl1 (fun k hk => (hz k (by omega)).symm)
      have hee : l.getD i 0 = m.getD i 0 → ∀ k, i ≤ k → l.getD k 0 = m.getD k 0 := fun h k hk => by
        by_cases e : k = i
        · subst e; exact h
        · exact hz k (by omega)
      generalize l.getD i 0 = x at *
      generalize m.getD i 0 = y at *
      refine awp_sx prog_ok hP hnt [] [.val (.d (.int .i64 x)), .val (.d (.int .i64 y))] [] [0, 1, 5, 22] (by kernel_rfl) (G := fun K => Fn Try.prog 216 [V.d (ib l), V.d (D.int IntKind.i64 (↑i : Int))] [] (V.d (D.int IntKind.i64 (↑x : Int))) [] ∧ Fn Try.prog 216 [V.d (ib m), V.d (D.int IntKind.i64 (↑i : Int))] [] (V.d (D.int IntKind.i64 (↑y : Int))) [] ∧ K (St.mk [(0, V.d (ib l)), (1, V.d (ib m)), (5, V.d (D.int IntKind.i64 (↑i : Int))), (22, V.d (D.bool ((↑x : Int) != (↑y : Int))))] [] 9)) (fun K => by kernel_rfl) ?_
      refine ⟨b1, b2, awp_cond rfl (fun e => ?_) (fun e => awp_skip (hK2 _ ?_))⟩
      · simp at e
        refine awp_sx prog_ok hP hnt [(29, .int .i64 (x - y : Int))] [.val (.d (.int .i64 x)), .val (.d (.int .i64 y))] [] [4] (by kernel_rfl) (G := fun K => Fn Try.prog 216 [V.d (ib l), V.d (D.int IntKind.i64 (↑i : Int))] [] (V.d (D.int IntKind.i64 (↑x : Int))) [] ∧ Fn Try.prog 216 [V.d (ib m), V.d (D.int IntKind.i64 (↑i : Int))] [] (V.d (D.int IntKind.i64 (↑y : Int))) [] ∧ IntKind.i64.wrap ((↑x : Int) - (↑y : Int)) = (↑x : Int) - (↑y : Int) ∧ K (St.mk [(4, V.d (D.int IntKind.i64 ((↑x : Int) - (↑y : Int))))] [] 17)) (fun K => by kernel_rfl) ?_
        refine ⟨b1, b2, by rw [w64] <;> omega, awp_ret ⟨.inl rfl, retD ?_⟩⟩
        show V.d (.int .i64 _) = V.d (.int .i64 _)
        congr 2
        unfold cmpI
        by_cases h1 : y < x
        · have := ht1 h1
          rw [if_pos this]; omega
        · have := ht2 (by omega)
          rw [if_neg (by omega), if_pos this]; omega
      · simp at e
        refine awp_x prog_ok hP hnt [(15, .int .i64 (i - 1 : Int))] [] [] [0, 1, 5] (by kernel_rfl) (G := fun K => IntKind.i64.wrap ((↑i : Int) - (1 : Int)) = (↑i : Int) - (1 : Int) ∧ K (St.mk [(0, V.d (ib l)), (1, V.d (ib m)), (5, V.d (D.int IntKind.i64 ((↑i : Int) - (1 : Int))))] [] 12)) (fun K => by kernel_rfl) ?_
        refine ⟨by rw [w64] <;> omega, i, [], ⟨⟨by omega, hee (by omega)⟩, by omega⟩, ?_⟩
        (constructor <;> simp [hl, envOk, memOk, conv, St.get, St.blk])
    · simp at e
      have : n = 0 := by omega
      subst this
      exact vb_ext fun k => hz k (by omega)
    · (constructor <;> simp [hl, envOk, memOk, conv, St.get, St.blk])
  intro _ h
  refine awp_sx prog_ok hP hnt [] [] [] [4] (by kernel_rfl) (G := fun K => K (St.mk [(4, V.d (D.int IntKind.i64 (0 : Int)))] [] 1)) (fun K => by kernel_rfl) ?_
  refine awp_ret ⟨.inl rfl, retD ?_⟩
  rw [h]
  unfold cmpI
  simp
end Go.Abs

set_option linter.unusedVariables false
set_option linter.unusedSimpArgs false
namespace Go.Abs
section
variable {b : Nat}
theorem vb_splitb (b : Nat) (l : List Nat) (i : Nat) : vb b l = vb b (l.take i) + b ^ i * (l.getD i 0 + b * vb b (l.drop (i + 1))) := by
  by_cases h : i < l.length
  · have := vb_append (b := b) (l.take i) (l.drop i)
    rw [List.take_append_drop, List.length_take, Nat.min_eq_left (by omega)] at this
    rw [this, List.drop_eq_getElem_cons h, vb]
    simp [h]
  · rw [List.take_of_length_le (by omega), List.drop_eq_nil_of_le (by omega), List.getD_eq_getElem?_getD, List.getElem?_eq_none (by omega)]; simp [vb]
theorem vb_digit_le (l : List Nat) (i : Nat) : b ^ i * l.getD i 0 ≤ vb b l := by
  rw [vb_splitb b l i, Nat.mul_add]; omega
theorem vb_put {l : List Nat} {i : Nat} (s : Nat) (h : i < l.length) : vb b (l.set i s) + b ^ i * l.getD i 0 = vb b l + b ^ i * s := by
  rw [vb_splitb b l i, vb_splitb b (l.set i s) i]
  have e1 : (l.set i s).take i = l.take i := by rw [List.take_set]; exact List.set_eq_of_length_le (by rw [List.length_take]; omega)
  have e2 : (l.set i s).drop (i + 1) = l.drop (i + 1) := List.drop_set_of_lt (by omega)
  have e3 : (l.set i s).getD i 0 = s := by rw [List.getD_eq_getElem?_getD]; simp [h]
  rw [e1, e2, e3, Nat.mul_add, Nat.mul_add]; omega
theorem vb_mulstep {o O v : List Nat} {i j c p q w T : Nat} (ho : i + j < o.length) (hw : O[i + j]? = some w) (hq : v[j]? = some q)
    (hT : T = w + p * q + c)
    (h : vb b (o.take (i + j)) + b ^ (i + j) * c = vb b (O.take (i + j)) + b ^ i * p * vb b (v.take j)) :
    vb b ((o.set (i + j) (T % b)).take (i + j + 1)) + b ^ (i + j + 1) * (T / b) = vb b (O.take (i + j + 1)) + b ^ i * p * vb b (v.take (j + 1)) := by
  rw [vb_set ho, vb_take_succ hw, vb_take_succ hq, Nat.pow_succ]
  have e : b * (T / b) + T % b = w + p * q + c := by rw [← hT]; exact Nat.div_add_mod T b
  have e2 : b ^ (i + j) = b ^ i * b ^ j := Nat.pow_add _ _ _
  generalize T / b = d at *
  generalize T % b = s at *
  generalize b ^ i = A at *
  generalize b ^ j = B at *
  generalize b ^ (i + j) = E at *
  have : E * (b * d + s) = E * (w + p * q + c) := by rw [e]
  grind
end
/-- a table of a function -/
def tb {α : Type} (F : Nat → α) (n : Nat) : List α := (List.range n).map F
section
variable {α : Type} {F G : Nat → α} {n : Nat}
@[simp] theorem tb_len : (tb F n).length = n := by simp [tb]
theorem tb_get {k : Nat} (h : k < n) : (tb F n)[k]? = some (F k) := by simp [tb, h]
theorem tb_ext (h : ∀ k, k < n → F k = G k) : tb F n = tb G n := by
  apply List.ext_getElem?
  intro k
  by_cases hk : k < n
  · rw [tb_get hk, tb_get hk, h k hk]
  · rw [List.getElem?_eq_none (by simp; omega), List.getElem?_eq_none (by simp; omega)]
theorem tb_set {j : Nat} {z : α} (hj : G j = z) (h : ∀ k, k ≠ j → k < n → F k = G k) : (tb F n).set j z = tb G n := by
  apply List.ext_getElem?
  intro k
  by_cases hk : k < n
  · rw [tb_get hk, List.getElem?_set]
    by_cases e : j = k
    · subst e; rw [if_pos rfl, if_pos (by simpa using hk), hj]
    · rw [if_neg e, tb_get hk, h k (Ne.symm e) hk]
  · rw [List.getElem?_eq_none (by simp; omega), List.getElem?_eq_none (by simp; omega)]
theorem tb_const (a : α) (n : Nat) : List.replicate n a = tb (fun _ => a) n := by
  apply List.ext_getElem?
  intro k
  by_cases hk : k < n
  · rw [tb_get hk]; simp [hk]
  · rw [List.getElem?_eq_none (by simp; omega), List.getElem?_eq_none (by simp; omega)]
theorem tb_snoc : tb F n ++ [F n] = tb F (n + 1) := by simp [tb, List.range_succ]
end
/-- shifted and cut: the bit of a number -/
theorem bit_word {B s N i : Nat} (hB : B = 2 ^ s) (hs : 0 < s) : N / B ^ (i / s) % B / 2 ^ (i % s) % 2 = N / 2 ^ i % 2 := by
  have h1 : i = s * (i / s) + i % s := (Nat.div_add_mod i s).symm
  have h2 : i % s < s := Nat.mod_lt _ hs
  have h3 : N / 2 ^ i = N / B ^ (i / s) / 2 ^ (i % s) := by
    rw [hB, ← Nat.pow_mul, Nat.div_div_eq_div_mul, ← Nat.pow_add, ← h1]
  rw [h3]
  generalize N / B ^ (i / s) = x
  generalize i % s = r at *
  subst hB
  obtain ⟨t, rfl⟩ : ∃ t, s = r + (t + 1) := ⟨s - r - 1, by omega⟩
  rw [Nat.pow_add, Nat.mod_mul_right_div_self, Nat.pow_succ, Nat.mul_comm (2 ^ t) 2, Nat.mod_mul_right_mod]
theorem pow_split (B s i : Nat) (hB : B = 2 ^ s) : B ^ (i / s) * 2 ^ (i % s) = 2 ^ i := by
  rw [hB, ← Nat.pow_mul, ← Nat.pow_add, Nat.div_add_mod]
end Go.Abs

set_option linter.unusedVariables false
set_option linter.unusedSimpArgs false
namespace Go.Abs
open Go Go.Proofs
set_option maxRecDepth 100000

theorem val_vb (l : List Nat) : val l = vb 4294967296 l := by
  induction l with
  | nil => rfl
  | cons d l ih => rw [val, vb, ih]
theorem zeros_ib (n : Nat) : zeros n [.int .i64 0] = ibs (List.replicate n 0) := fm_zeros (g := i1) 0 n
theorem setCells_ib (l : List Nat) (i s : Nat) : setCells (ibs l) i [.int .i64 s] = ibs (l.set i s) := ibs_set l i s
theorem u64nat {n : Nat} (h : n < 18446744073709551616) : IntKind.u64.wrap (n : Int) = n := u64w (by omega) (by omega)

theorem shrN (x r : Nat) {w : Nat} (h : r ≤ w) : (x : Int).fdiv (2 ^ min ((r : Nat) : Int).toNat w) = ((x / 2 ^ r : Nat) : Int) := by
  rw [Int.toNat_natCast, Nat.min_eq_left h, Int.fdiv_eq_ediv_of_nonneg _ (Int.pow_nonneg (by decide)), Int.natCast_ediv, Int.natCast_pow]; rfl
theorem shlN (x r : Nat) {w : Nat} (h : r ≤ w) : (x : Int) * (2 ^ min ((r : Nat) : Int).toNat w) = ((x * 2 ^ r : Nat) : Int) := by
  rw [Int.toNat_natCast, Nat.min_eq_left h, Int.natCast_mul, Int.natCast_pow]; rfl
theorem i64nat {n : Nat} (h : n ≤ 9223372036854775807) : IntKind.i64.wrap (n : Int) = n := w64 (by omega) (by omega)
theorem u32nat {n : Nat} (h : n < 4294967296) : IntKind.u32.wrap (n : Int) = n := u32w (by omega) (by omega)
theorem drop0 {cs : List D} {i : Nat} {d : D} (h : cs[i]? = some d) : (cs.drop (((i : Nat) : Int).toNat * 1))[0]? = some d := by
  rw [Int.toNat_natCast, Nat.mul_one, List.getElem?_drop, Nat.add_zero]; exact h
theorem ibs_some {l : List Nat} {i x : Nat} (h : l[i]? = some x) : (ibs l)[i]? = some (.int .i64 x) := by rw [ibs_get, h]; rfl
theorem u32s_some {l : List Nat} {i x : Nat} (h : l[i]? = some x) : (u32s l)[i]? = some (.int .u32 x) := by rw [u32s_get, h]; rfl
theorem bof_fn (l : List Nat) (hl1 : Dg l) (hn : l.length ≤ 2 ^ 34) : Fn Try.prog 209 [.d (du l)] [] (.d (ib (db 2 (val l)))) [] := by
  refine fn0 (nt := 28) (res := [.tmp 2]) Try.func209 rfl (by decide) rfl rfl rfl rfl ?_
  intro C hP hnt hl
  refine awp_sx prog_ok hP hnt [] [] [] [0] (by kernel_rfl) (G := fun K => K (St.mk [(0, V.d (du l))] [] 1)) (fun K => by kernel_rfl) ?_
  refine awp_sx prog_ok hP hnt [] [] [] [0, 3] (by kernel_rfl) (G := fun K => K (St.mk [(0, V.d (du l)), (3, V.nil)] [] 2)) (fun K => by kernel_rfl) ?_
  obtain ⟨O, hO⟩ : ∃ O : Nat → List Nat, O = tb fun k => val l / 2 ^ k % 2 := ⟨_, rfl⟩
  have hOl : ∀ i, (O i).length = i := fun i => by rw [hO, tb_len]
  have hOs : ∀ i, ibs (O i) ++ [.int .i64 (val l / 2 ^ i % 2 : Nat)] = ibs (O (i + 1)) := fun i => by rw [ibs_app, hO, tb_snoc]
  refine awp_cut (ι := Unit) (fun _ => ⟨[(3, .own 0 0 (32 * l.length) 1)], [(0, some ⟨ibs (O (32 * l.length)), true⟩)], 1⟩) (fun _ => True) ?_ ?_
  · refine awp_sx prog_ok hP hnt [] [] [] [0, 3, 4] (by kernel_rfl) (G := fun K => K (St.mk [(0, V.d (du l)), (3, V.nil), (4, V.d (D.int IntKind.i64 (0 : Int)))] [] 3)) (fun K => by kernel_rfl) ?_
    refine awp_block ?_
    refine awp_loop (ι := Nat) (fun i => ⟨[(0, .d (du l)), (3, .own 0 0 i 1), (4, .d (.int .i64 i))], [(0, some ⟨ibs (O i), true⟩)], 1⟩)
      (fun i => i ≤ 32 * l.length) (fun i => 32 * l.length - i) 0 [] (by simp) ?_ ?_
    · (constructor <;> simp [hl, envOk, memOk, conv, St.get, St.blk, ibs, fm, hO, tb])
    intro i hi
    refine awp_seq_k fun K hK => ?_
    refine awp_sx prog_ok hP hnt [(8, .int .i64 (32 * l.length : Nat))] [] [] [0, 3, 4, 9] (by kernel_rfl) (G := fun K => IntKind.i64.wrap ((32 : Int) * (↑l.length : Int)) = (↑(32 * l.length) : Int) ∧ K (St.mk [(0, V.d (du l)), (3, V.own 0 0 i 1), (4, V.d (D.int IntKind.i64 (↑i : Int))), (9, V.d (D.bool (decide ((↑i : Int) < (↑(32 * l.length) : Int)))))] [(0, some (Blk.mk (ibs (O i)) true))] 6)) (fun K => by kernel_rfl) ?_
    refine ⟨by rw [w64] <;> omega, ?_⟩
    refine awp_cond rfl (fun e => awp_skip (hK _ ?_)) (fun e => awp_exit ⟨(), [(0, 0)], trivial, ?_⟩)
    · simp at e
      refine awp_seq_k fun K2 hK2 => ?_
      refine awp_block ?_
      have hq : i / 32 < l.length := by omega
      obtain ⟨x, hx⟩ := get_ex hq
      have hx2 := dg_get hl1 hx
      have hbit : x / 2 ^ (i % 32) % 2 = val l / 2 ^ i % 2 := by
        have h1 := bit_word (B := 4294967296) (s := 32) (N := val l) (i := i) rfl (by omega)
        have h2 := vb_digit (b := 4294967296) (by omega) (i / 32) hl1
        rw [← val_vb] at h2
        rw [h2, List.getD_eq_getElem?_getD, hx] at h1
        exact h1
      refine awp_x prog_ok hP hnt [(15, .int .i64 (i / 32 : Nat)), (19, .int .i64 (i % 32 : Nat)), (20, .int .u64 (i % 32 : Nat)), (21, .int .u32 (x / 2 ^ (i % 32) : Nat)), (22, .int .u32 (x / 2 ^ (i % 32) % 2 : Nat)), (23, .int .i64 (x / 2 ^ (i % 32) % 2 : Nat))] [] [some [.int .u32 x]] [0, 3, 4] (by kernel_rfl) (G := fun K => (32 : Int) ≠ (0 : Int) ∧ IntKind.i64.wrap ((↑i : Int).tdiv (32 : Int)) = (↑(i / 32) : Int) ∧ ((0 : Int) ≤ (↑(i / 32) : Int) ∧ (↑(i / 32) : Int) < (↑l.length : Int) ∧ ((↑(i / 32) : Int).toNat + 1) * 1 ≤ (u32s l).length) ∧ (List.drop ((↑(i / 32) : Int).toNat * 1) (u32s l))[0]? = some (D.int IntKind.u32 (↑x : Int)) ∧ (32 : Int) ≠ (0 : Int) ∧ (↑i : Int).tmod (32 : Int) = (↑(i % 32) : Int) ∧ IntKind.u64.wrap (↑(i % 32) : Int) = (↑(i % 32) : Int) ∧ (0 : Int) ≤ (↑(i % 32) : Int) ∧ (↑x : Int).fdiv ((2 : Int) ^ min (↑(i % 32) : Int).toNat IntKind.u32.bits) = (↑(x / 2 ^ (i % 32)) : Int) ∧ (2 : Int) ≠ (0 : Int) ∧ (↑(x / 2 ^ (i % 32)) : Int).tmod (2 : Int) = (↑(x / 2 ^ (i % 32) % 2) : Int) ∧ IntKind.i64.wrap (↑(x / 2 ^ (i % 32) % 2) : Int) = (↑(x / 2 ^ (i % 32) % 2) : Int) ∧ 1 = 1 ∧ ((ibs (O i)).length = i * 1 ∧ (i + 1) * 8 ≤ 2 ^ 47) ∧ K (St.mk [(0, V.d (du l)), (3, V.own 19 0 (i + 1) 1), (4, V.d (D.int IntKind.i64 (↑i : Int)))] [(0, none), (19, some (Blk.mk (ibs (O i) ++ setCells (zeros 1 (TI.mk (Kind.int IntKind.i64) 1 8 [D.int IntKind.i64 (0 : Int)]).zero) 0 [D.int IntKind.i64 (↑(x / 2 ^ (i % 32) % 2) : Int)]) true))] 21)) (fun K => by kernel_rfl) ?_
      have hs := hOs i
      rw [← hbit] at hs
      refine ⟨by decide, tdivN i 32 (by omega), ⟨by omega, by omega, by simp; omega⟩, drop0 (u32s_some hx), by decide, tmodN i 32, u64nat (by omega), by omega, shrN x (i % 32) (w := IntKind.u32.bits) (by show i % 32 ≤ 32; omega), by decide, tmodN _ 2, i64nat (by omega), rfl, ⟨by rw [ibs_len, hOl, Nat.mul_one], by omega⟩, hK2 _ ?_⟩
      refine awp_x prog_ok hP hnt [(11, .int .i64 (i + 1 : Nat))] [] [] [0, 3, 4] (by kernel_rfl) (G := fun K => IntKind.i64.wrap ((↑i : Int) + (1 : Int)) = (↑(i + 1) : Int) ∧ K (St.mk [(0, V.d (du l)), (3, V.own 19 0 (i + 1) 1), (4, V.d (D.int IntKind.i64 (↑(i + 1) : Int)))] [(0, none), (19, some (Blk.mk (ibs (O i) ++ setCells (zeros 1 (TI.mk (Kind.int IntKind.i64) 1 8 [D.int IntKind.i64 (0 : Int)]).zero) 0 [D.int IntKind.i64 (↑(x / 2 ^ (i % 32) % 2) : Int)]) true))] 24)) (fun K => by kernel_rfl) ?_
      refine ⟨by rw [w64] <;> omega, i + 1, [(0, 19)], ⟨by omega, by omega⟩, ?_⟩
      (constructor <;> simp [hl, envOk, memOk, conv, St.get, St.blk, ← hs, setCells, zeros])
    · simp at e
      have : i = 32 * l.length := by omega
      subst this
      (constructor <;> simp [hl, envOk, memOk, conv, St.get, St.blk])
  intro _ _
  have hdb : Db 2 (O (32 * l.length)) := fun d hd => by
    rw [hO] at hd
    simp only [tb, List.mem_map] at hd
    obtain ⟨k, _, rfl⟩ := hd
    omega
  have hval : vb 2 (O (32 * l.length)) = val l := by
    rw [vb_of_digits (b := 2) (N := val l) (by omega) (fun i x hx => by
      have hi := (List.getElem?_eq_some_iff.1 hx).1
      rw [hOl] at hi
      rw [hO, tb_get hi] at hx
      exact (Option.some.inj hx).symm), hOl]
    have := val_lt hl1
    rw [show (4294967296 : Nat) = 2 ^ 32 by rfl, ← Nat.pow_mul] at this
    exact Nat.mod_eq_of_lt this
  have hbt := btrim_fn (O (32 * l.length)) hdb (by rw [hOl]; omega)
  rw [hval] at hbt
  refine awp_sx prog_ok hP hnt [] [.val (.d (ib (db 2 (val l))))] [] [2] (by kernel_rfl) (G := fun K => Fn Try.prog 166 [V.d (D.lst (32 * l.length) (List.take (32 * l.length * 1) (List.drop 0 (ibs (O (32 * l.length))))))] [] (V.d (ib (db 2 (val l)))) [] ∧ K (St.mk [(2, V.d (ib (db 2 (val l))))] [(0, some (Blk.mk (ibs (O (32 * l.length))) false))] 4)) (fun K => by kernel_rfl) ?_
  refine ⟨?_, awp_ret ⟨.inl rfl, retD rfl⟩⟩
  have := own_fm i1_len (hOl (32 * l.length))
  rw [this]
  exact hbt

theorem words_fn (l : List Nat) (hl1 : Db 2 l) (hn : l.length ≤ 2 ^ 39) : ∃ o, Db 32768 o ∧ vb 32768 o = vb 2 l ∧ o.length = (l.length + 14) / 15 ∧ Fn Try.prog 241 [.d (ib l)] [] (.d (ib o)) [] := by
  obtain ⟨W, hW⟩ : ∃ W, W = (l.length + 14) / 15 := ⟨_, rfl⟩
  -- the words behind i bits
  obtain ⟨O, hO0, hO⟩ : ∃ O : Nat → List Nat, O 0 = List.replicate W 0 ∧ ∀ i, O (i + 1) = (O i).set (i / 15) ((O i).getD (i / 15) 0 + l.getD i 0 * 2 ^ (i % 15)) :=
    ⟨fun i => Nat.rec (List.replicate W 0) (fun i o => o.set (i / 15) (o.getD (i / 15) 0 + l.getD i 0 * 2 ^ (i % 15))) i, rfl, fun _ => rfl⟩
  have hOl : ∀ i, (O i).length = W := fun i => by
    induction i with
    | zero => rw [hO0]; simp
    | succ i ih => rw [hO, List.length_set, ih]
  have key : ∀ i, i ≤ l.length → Db 32768 (O i) ∧ vb 32768 (O i) = vb 2 (l.take i) := fun i => by
    induction i with
    | zero => intro _; rw [hO0]; exact ⟨fun d hd => by rw [List.mem_replicate] at hd; omega, by rw [vb_zeros]; simp [vb]⟩
    | succ i ih =>
      intro hi
      obtain ⟨h1, h2⟩ := ih (by omega)
      have hq : i / 15 < (O i).length := by rw [hOl]; omega
      have hlt : vb 2 (l.take i) < 2 ^ i := by
        have := vb_lt (b := 2) (by omega) (db_take hl1 i)
        rwa [List.length_take, Nat.min_eq_left (by omega)] at this
      have hd := vb_digit_le (b := 32768) (O i) (i / 15)
      rw [h2] at hd
      have hsp := pow_split 32768 15 i rfl
      have hdig : (O i).getD (i / 15) 0 < 2 ^ (i % 15) := by
        apply Nat.lt_of_mul_lt_mul_left (a := 32768 ^ (i / 15))
        rw [hsp]; omega
      have hx := db_getD (b := 2) (by omega) hl1 i
      have hput := vb_put (b := 32768) ((O i).getD (i / 15) 0 + l.getD i 0 * 2 ^ (i % 15)) hq
      rw [hO]
      refine ⟨db_set h1 ?_, ?_⟩
      · have h3 : 2 ^ (i % 15) ≤ 2 ^ 14 := Nat.pow_le_pow_right (by omega) (by omega)
        have h4 : l.getD i 0 * 2 ^ (i % 15) ≤ 1 * 2 ^ (i % 15) := Nat.mul_le_mul_right _ (by omega)
        omega
      · rw [vb_take_D, ← h2, ← hsp]
        generalize 32768 ^ (i / 15) = A at *
        generalize 2 ^ (i % 15) = B at *
        grind
  refine ⟨O l.length, (key _ (Nat.le_refl _)).1, by rw [(key _ (Nat.le_refl _)).2, List.take_length], by rw [hOl, hW], ?_⟩
  refine fn0 (nt := 32) (res := [.tmp 2]) Try.func241 rfl (by decide) rfl rfl rfl rfl ?_
  intro C hP hnt hl
  refine awp_sx prog_ok hP hnt [] [] [] [0] (by kernel_rfl) (G := fun K => K (St.mk [(0, V.d (ib l))] [] 1)) (fun K => by kernel_rfl) ?_
  refine awp_sx prog_ok hP hnt [(7, .int .i64 (l.length + 14 : Nat)), (8, .int .i64 W)] [] [] [0, 3] (by kernel_rfl) (G := fun K => IntKind.i64.wrap ((↑l.length : Int) + (14 : Int)) = (↑(l.length + 14) : Int) ∧ (15 : Int) ≠ (0 : Int) ∧ IntKind.i64.wrap ((↑(l.length + 14) : Int).tdiv (15 : Int)) = (↑W : Int) ∧ ((↑W : Int) = (↑W : Int) ∧ (0 : Int) ≤ (↑W : Int) ∧ (↑W : Int) * (↑8 : Int) ≤ (2 : Int) ^ 47) ∧ K (St.mk [(0, V.d (ib l)), (3, V.own 5 0 (↑W : Int).toNat 1)] [(5, some (Blk.mk (zeros (↑W : Int).toNat (TI.mk (Kind.int IntKind.i64) 1 8 [D.int IntKind.i64 (0 : Int)]).zero) true))] 7)) (fun K => by kernel_rfl) ?_
  refine ⟨by rw [w64] <;> omega, by decide, by rw [hW]; exact tdivN (l.length + 14) 15 (by omega), by omega, ?_⟩
  refine awp_cut (ι := Unit) (fun _ => ⟨[(3, .own 0 0 W 1)], [(0, some ⟨ibs (O l.length), true⟩)], 1⟩) (fun _ => True) ?_ ?_
  · refine awp_sx prog_ok hP hnt [] [] [] [0, 3, 4] (by kernel_rfl) (G := fun K => K (St.mk [(0, V.d (ib l)), (3, V.own 5 0 (↑W : Int).toNat 1), (4, V.d (D.int IntKind.i64 (0 : Int)))] [(5, some (Blk.mk (zeros (↑W : Int).toNat (TI.mk (Kind.int IntKind.i64) 1 8 [D.int IntKind.i64 (0 : Int)]).zero) true))] 8)) (fun K => by kernel_rfl) ?_
    refine awp_block ?_
    refine awp_loop (ι := Nat) (fun i => ⟨[(0, .d (ib l)), (3, .own 0 0 W 1), (4, .d (.int .i64 i))], [(0, some ⟨ibs (O i), true⟩)], 1⟩)
      (fun i => i ≤ l.length) (fun i => l.length - i) 0 [(0, 5)] (by simp) ?_ ?_
    · (constructor <;> simp [hl, envOk, memOk, conv, St.get, St.blk, zeros_ib, hO0])
    intro i hi
    refine awp_seq_k fun K hK => ?_
    refine awp_sx prog_ok hP hnt [] [] [] [0, 3, 4, 13] (by kernel_rfl) (G := fun K => K (St.mk [(0, V.d (ib l)), (3, V.own 0 0 W 1), (4, V.d (D.int IntKind.i64 (↑i : Int))), (13, V.d (D.bool (decide ((↑i : Int) < (↑l.length : Int)))))] [(0, some (Blk.mk (ibs (O i)) true))] 5)) (fun K => by kernel_rfl) ?_
    refine awp_cond rfl (fun e => awp_skip (hK _ ?_)) (fun e => awp_exit ⟨(), [(0, 0)], trivial, ?_⟩)
    · simp at e
      refine awp_seq_k fun K2 hK2 => ?_
      refine awp_block ?_
      obtain ⟨h1, h2⟩ := key i hi
      have hq : i / 15 < W := by omega
      obtain ⟨x, hx⟩ := get_ex (l := l) (i := i) e
      have hxd : l.getD i 0 = x := by rw [List.getD_eq_getElem?_getD, hx]; rfl
      have hx2 : x < 2 := db_get hl1 hx
      obtain ⟨y, hy⟩ := get_ex (l := O i) (i := i / 15) (by rw [hOl]; exact hq)
      have hyd : (O i).getD (i / 15) 0 = y := by rw [List.getD_eq_getElem?_getD, hy]; rfl
      have hy2 : y < 32768 := db_get h1 hy
      have hOi := hO i
      rw [hxd, hyd] at hOi
      have h3 : 2 ^ (i % 15) ≤ 2 ^ 14 := Nat.pow_le_pow_right (by omega) (by omega)
      have h4 : x * 2 ^ (i % 15) ≤ 1 * 2 ^ (i % 15) := Nat.mul_le_mul_right _ (by omega)
      refine awp_x prog_ok hP hnt [(18, .int .i64 (i / 15 : Nat)), (26, .int .i64 (i % 15 : Nat)), (27, .int .u64 (i % 15 : Nat)), (28, .int .i64 (x * 2 ^ (i % 15) : Nat)), (29, .int .i64 (y + x * 2 ^ (i % 15) : Nat))] [] [some [.int .i64 y], some [.int .i64 x]] [0, 3, 4] (by kernel_rfl) (G := fun K => (15 : Int) ≠ (0 : Int) ∧ IntKind.i64.wrap ((↑i : Int).tdiv (15 : Int)) = (↑(i / 15) : Int) ∧ ((0 : Int) ≤ (↑(i / 15) : Int) ∧ (↑(i / 15) : Int) < (↑W : Int)) ∧ (ibs (O i))[0 + (↑(i / 15) : Int).toNat * 1]? = some (D.int IntKind.i64 (↑y : Int)) ∧ ((0 : Int) ≤ (↑i : Int) ∧ (↑i : Int) < (↑l.length : Int) ∧ ((↑i : Int).toNat + 1) * 1 ≤ (ibs l).length) ∧ (List.drop ((↑i : Int).toNat * 1) (ibs l))[0]? = some (D.int IntKind.i64 (↑x : Int)) ∧ (15 : Int) ≠ (0 : Int) ∧ (↑i : Int).tmod (15 : Int) = (↑(i % 15) : Int) ∧ IntKind.u64.wrap (↑(i % 15) : Int) = (↑(i % 15) : Int) ∧ (0 : Int) ≤ (↑(i % 15) : Int) ∧ IntKind.i64.wrap ((↑x : Int) * (2 : Int) ^ min (↑(i % 15) : Int).toNat IntKind.i64.bits) = (↑(x * 2 ^ (i % 15)) : Int) ∧ IntKind.i64.wrap ((↑y : Int) + (↑(x * 2 ^ (i % 15)) : Int)) = (↑(y + x * 2 ^ (i % 15)) : Int) ∧ ((0 : Int) ≤ (↑(i / 15) : Int) ∧ (↑(i / 15) : Int) < (↑W : Int)) ∧ 0 + (↑(i / 15) : Int).toNat * 1 + [D.int IntKind.i64 (↑(y + x * 2 ^ (i % 15)) : Int)].length ≤ (ibs (O i)).length ∧ K (St.mk [(0, V.d (ib l)), (3, V.own 0 0 W 1), (4, V.d (D.int IntKind.i64 (↑i : Int)))] [(0, some (Blk.mk (setCells (ibs (O i)) (0 + (↑(i / 15) : Int).toNat * 1) [D.int IntKind.i64 (↑(y + x * 2 ^ (i % 15)) : Int)]) true))] 21)) (fun K => by kernel_rfl) ?_
      refine ⟨by decide, tdivN i 15 (by omega), ⟨by omega, by omega⟩, by rw [Int.toNat_natCast, Nat.zero_add, Nat.mul_one]; exact ibs_some hy, ⟨by omega, by omega, by simp; omega⟩, drop0 (ibs_some hx), by decide, tmodN i 15, u64nat (by omega), by omega,
        by rw [shlN x (i % 15) (w := IntKind.i64.bits) (by show i % 15 ≤ 64; omega)]; exact i64nat (by omega), by rw [← Int.natCast_add]; exact i64nat (by omega), ⟨by omega, by omega⟩, by rw [Int.toNat_natCast, ibs_len, hOl]; show 0 + i / 15 * 1 + 1 ≤ W; omega, hK2 _ ?_⟩
      have hsc := setCells_ib (O i) (i / 15) (y + x * 2 ^ (i % 15))
      rw [← hOi] at hsc
      refine awp_x prog_ok hP hnt [(15, .int .i64 (i + 1 : Nat))] [] [] [0, 3, 4] (by kernel_rfl) (G := fun K => IntKind.i64.wrap ((↑i : Int) + (1 : Int)) = (↑(i + 1) : Int) ∧ K (St.mk [(0, V.d (ib l)), (3, V.own 0 0 W 1), (4, V.d (D.int IntKind.i64 (↑(i + 1) : Int)))] [(0, some (Blk.mk (setCells (ibs (O i)) (0 + (↑(i / 15) : Int).toNat * 1) [D.int IntKind.i64 (↑(y + x * 2 ^ (i % 15)) : Int)]) true))] 24)) (fun K => by kernel_rfl) ?_
      refine ⟨by rw [w64] <;> omega, i + 1, [(0, 0)], ⟨by omega, by omega⟩, ?_⟩
      rw [Int.toNat_natCast, Nat.mul_one, Nat.zero_add, hsc]
      (constructor <;> simp [hl, envOk, memOk, conv, St.get, St.blk])
    · simp at e
      have : i = l.length := by omega
      subst this
      (constructor <;> simp [hl, envOk, memOk, conv, St.get, St.blk])
  intro _ _
  refine awp_sx prog_ok hP hnt [] [] [] [2] (by kernel_rfl) (G := fun K => K (St.mk [(2, V.own 0 0 W 1)] [(0, some (Blk.mk (ibs (O l.length)) true))] 3)) (fun K => by kernel_rfl) ?_
  refine awp_ret ⟨.inl rfl, retOwn rfl rfl ?_⟩
  rw [ib, hOl]
  have := own_fm i1_len (hOl l.length)
  rw [hOl] at this
  exact this

theorem bits_fn (l : List Nat) (hl1 : Db 32768 l) (hn : l.length ≤ 2 ^ 36) : Fn Try.prog 242 [.d (ib l)] [] (.d (ib (db 2 (vb 32768 l)))) [] := by
  refine fn0 (nt := 30) (res := [.tmp 2]) Try.func242 rfl (by decide) rfl rfl rfl rfl ?_
  intro C hP hnt hl
  obtain ⟨N, hN⟩ : ∃ N, N = vb 32768 l := ⟨_, rfl⟩
  rw [← hN]
  obtain ⟨O, hO⟩ : ∃ O : Nat → List Nat, O = fun i => tb (fun k => if k < i then N / 2 ^ k % 2 else 0) (15 * l.length) := ⟨_, rfl⟩
  have hOl : ∀ i, (O i).length = 15 * l.length := fun i => by rw [hO]; simp
  have hOs : ∀ i, (O i).set i (N / 2 ^ i % 2) = O (i + 1) := fun i => by
    rw [hO]
    refine tb_set (by simp) fun k hk _ => ?_
    by_cases h : k < i
    · rw [if_pos h, if_pos (by omega)]
    · rw [if_neg h, if_neg (by omega)]
  refine awp_sx prog_ok hP hnt [] [] [] [0] (by kernel_rfl) (G := fun K => K (St.mk [(0, V.d (ib l))] [] 1)) (fun K => by kernel_rfl) ?_
  refine awp_sx prog_ok hP hnt [(7, .int .i64 (15 * l.length : Nat))] [] [] [0, 3] (by kernel_rfl) (G := fun K => IntKind.i64.wrap ((15 : Int) * (↑l.length : Int)) = (↑(15 * l.length) : Int) ∧ ((↑(15 * l.length) : Int) = (↑(15 * l.length) : Int) ∧ (0 : Int) ≤ (↑(15 * l.length) : Int) ∧ (↑(15 * l.length) : Int) * (↑8 : Int) ≤ (2 : Int) ^ 47) ∧ K (St.mk [(0, V.d (ib l)), (3, V.own 4 0 (↑(15 * l.length) : Int).toNat 1)] [(4, some (Blk.mk (zeros (↑(15 * l.length) : Int).toNat (TI.mk (Kind.int IntKind.i64) 1 8 [D.int IntKind.i64 (0 : Int)]).zero) true))] 6)) (fun K => by kernel_rfl) ?_
  refine ⟨by rw [w64] <;> omega, by omega, ?_⟩
  refine awp_cut (ι := Unit) (fun _ => ⟨[(3, .own 0 0 (15 * l.length) 1)], [(0, some ⟨ibs (O (15 * l.length)), true⟩)], 1⟩) (fun _ => True) ?_ ?_
  · refine awp_sx prog_ok hP hnt [] [] [] [0, 3, 4] (by kernel_rfl) (G := fun K => K (St.mk [(0, V.d (ib l)), (3, V.own 4 0 (↑(15 * l.length) : Int).toNat 1), (4, V.d (D.int IntKind.i64 (0 : Int)))] [(4, some (Blk.mk (zeros (↑(15 * l.length) : Int).toNat (TI.mk (Kind.int IntKind.i64) 1 8 [D.int IntKind.i64 (0 : Int)]).zero) true))] 7)) (fun K => by kernel_rfl) ?_
    refine awp_block ?_
    refine awp_loop (ι := Nat) (fun i => ⟨[(0, .d (ib l)), (3, .own 0 0 (15 * l.length) 1), (4, .d (.int .i64 i))], [(0, some ⟨ibs (O i), true⟩)], 1⟩)
      (fun i => i ≤ 15 * l.length) (fun i => 15 * l.length - i) 0 [(0, 4)] (by simp) ?_ ?_
    · have h0 : zeros (15 * l.length) [D.int IntKind.i64 0] = ibs (O 0) := by rw [zeros_ib, hO, tb_const]; rfl
      rw [Int.toNat_natCast, h0]
      (constructor <;> simp [hl, envOk, memOk, conv, St.get, St.blk])
    intro i hi
    refine awp_seq_k fun K hK => ?_
    refine awp_sx prog_ok hP hnt [] [] [] [0, 3, 4, 12] (by kernel_rfl) (G := fun K => K (St.mk [(0, V.d (ib l)), (3, V.own 0 0 (15 * l.length) 1), (4, V.d (D.int IntKind.i64 (↑i : Int))), (12, V.d (D.bool (decide ((↑i : Int) < (↑(15 * l.length) : Int)))))] [(0, some (Blk.mk (ibs (O i)) true))] 5)) (fun K => by kernel_rfl) ?_
    refine awp_cond rfl (fun e => awp_skip (hK _ ?_)) (fun e => awp_exit ⟨(), [(0, 0)], trivial, ?_⟩)
    · simp at e
      refine awp_seq_k fun K2 hK2 => ?_
      refine awp_block ?_
      have hq : i / 15 < l.length := by omega
      obtain ⟨x, hx⟩ := get_ex hq
      have hx2 := db_get hl1 hx
      have hbit : x / 2 ^ (i % 15) % 2 = N / 2 ^ i % 2 := by
        have h1 := bit_word (B := 32768) (s := 15) (N := N) (i := i) rfl (by omega)
        have h2 := vb_digit (b := 32768) (by omega) (i / 15) hl1
        rw [← hN] at h2
        rw [h2, List.getD_eq_getElem?_getD, hx] at h1
        exact h1
      have hsc := setCells_ib (O i) i (x / 2 ^ (i % 15) % 2)
      rw [hbit, hOs, ← hbit] at hsc
      have hxs : x / 2 ^ (i % 15) ≤ x := Nat.div_le_self _ _
      refine awp_x prog_ok hP hnt [(19, .int .i64 (i / 15 : Nat)), (23, .int .i64 (i % 15 : Nat)), (24, .int .u64 (i % 15 : Nat)), (25, .int .i64 (x / 2 ^ (i % 15) : Nat)), (26, .int .i64 (x / 2 ^ (i % 15) % 2 : Nat))] [] [some [.int .i64 x]] [0, 3, 4] (by kernel_rfl) (G := fun K => (15 : Int) ≠ (0 : Int) ∧ IntKind.i64.wrap ((↑i : Int).tdiv (15 : Int)) = (↑(i / 15) : Int) ∧ ((0 : Int) ≤ (↑(i / 15) : Int) ∧ (↑(i / 15) : Int) < (↑l.length : Int) ∧ ((↑(i / 15) : Int).toNat + 1) * 1 ≤ (ibs l).length) ∧ (List.drop ((↑(i / 15) : Int).toNat * 1) (ibs l))[0]? = some (D.int IntKind.i64 (↑x : Int)) ∧ (15 : Int) ≠ (0 : Int) ∧ (↑i : Int).tmod (15 : Int) = (↑(i % 15) : Int) ∧ IntKind.u64.wrap (↑(i % 15) : Int) = (↑(i % 15) : Int) ∧ (0 : Int) ≤ (↑(i % 15) : Int) ∧ (↑x : Int).fdiv ((2 : Int) ^ min (↑(i % 15) : Int).toNat IntKind.i64.bits) = (↑(x / 2 ^ (i % 15)) : Int) ∧ (2 : Int) ≠ (0 : Int) ∧ (↑(x / 2 ^ (i % 15)) : Int).tmod (2 : Int) = (↑(x / 2 ^ (i % 15) % 2) : Int) ∧ ((0 : Int) ≤ (↑i : Int) ∧ (↑i : Int) < (↑(15 * l.length) : Int)) ∧ 0 + (↑i : Int).toNat * 1 + [D.int IntKind.i64 (↑(x / 2 ^ (i % 15) % 2) : Int)].length ≤ (ibs (O i)).length ∧ K (St.mk [(0, V.d (ib l)), (3, V.own 0 0 (15 * l.length) 1), (4, V.d (D.int IntKind.i64 (↑i : Int)))] [(0, some (Blk.mk (setCells (ibs (O i)) (0 + (↑i : Int).toNat * 1) [D.int IntKind.i64 (↑(x / 2 ^ (i % 15) % 2) : Int)]) true))] 19)) (fun K => by kernel_rfl) ?_
      refine ⟨by decide, tdivN i 15 (by omega), ⟨by omega, by omega, by simp; omega⟩, drop0 (ibs_some hx), by decide, tmodN i 15, u64nat (by omega), by omega, shrN x (i % 15) (w := IntKind.i64.bits) (by show i % 15 ≤ 64; omega), by decide, tmodN _ 2,
        ⟨by omega, by omega⟩, by rw [Int.toNat_natCast, ibs_len, hOl]; show 0 + i * 1 + 1 ≤ 15 * l.length; omega, hK2 _ ?_⟩
      refine awp_x prog_ok hP hnt [(14, .int .i64 (i + 1 : Nat))] [] [] [0, 3, 4] (by kernel_rfl) (G := fun K => IntKind.i64.wrap ((↑i : Int) + (1 : Int)) = (↑(i + 1) : Int) ∧ K (St.mk [(0, V.d (ib l)), (3, V.own 0 0 (15 * l.length) 1), (4, V.d (D.int IntKind.i64 (↑(i + 1) : Int)))] [(0, some (Blk.mk (setCells (ibs (O i)) (0 + (↑i : Int).toNat * 1) [D.int IntKind.i64 (↑(x / 2 ^ (i % 15) % 2) : Int)]) true))] 22)) (fun K => by kernel_rfl) ?_
      refine ⟨by rw [w64] <;> omega, i + 1, [(0, 0)], ⟨by omega, by omega⟩, ?_⟩
      rw [Int.toNat_natCast, Nat.mul_one, Nat.zero_add, hsc]
      (constructor <;> simp [hl, envOk, memOk, conv, St.get, St.blk])
    · simp at e
      have : i = 15 * l.length := by omega
      subst this
      (constructor <;> simp [hl, envOk, memOk, conv, St.get, St.blk])
  intro _ _
  have hdb : Db 2 (O (15 * l.length)) := fun d hd => by
    rw [hO] at hd
    simp only [tb, List.mem_map] at hd
    obtain ⟨k, _, rfl⟩ := hd
    split <;> omega
  have hval : vb 2 (O (15 * l.length)) = N := by
    rw [vb_of_digits (b := 2) (N := N) (by omega) (fun i x hx => by
      have hi := (List.getElem?_eq_some_iff.1 hx).1
      rw [hOl] at hi
      simp only [hO] at hx
      rw [tb_get hi, if_pos hi] at hx
      exact (Option.some.inj hx).symm), hOl]
    have := vb_lt (b := 32768) (by omega) hl1
    rw [show (32768 : Nat) = 2 ^ 15 by rfl, ← Nat.pow_mul, ← hN] at this
    exact Nat.mod_eq_of_lt this
  have hbt := btrim_fn (O (15 * l.length)) hdb (by rw [hOl]; omega)
  rw [hval] at hbt
  refine awp_sx prog_ok hP hnt [] [.val (.d (ib (db 2 N)))] [] [2] (by kernel_rfl) (G := fun K => Fn Try.prog 166 [V.d (D.lst (15 * l.length) (List.take (15 * l.length * 1) (List.drop 0 (ibs (O (15 * l.length))))))] [] (V.d (ib (db 2 N))) [] ∧ K (St.mk [(2, V.d (ib (db 2 N)))] [(0, some (Blk.mk (ibs (O (15 * l.length))) false))] 4)) (fun K => by kernel_rfl) ?_
  refine ⟨?_, awp_ret ⟨.inl rfl, retD rfl⟩⟩
  have := own_fm i1_len (hOl (15 * l.length))
  rw [this]
  exact hbt

theorem mul15 {p q w c : Nat} (hp : p < 32768) (hq : q < 32768) (hw : w < 32768) (hc : c < 32768) : w + p * q + c < 1073741824 ∧ (w + p * q + c) / 32768 < 32768 := by
  have h1 : p * q ≤ 32767 * 32767 := Nat.mul_le_mul (by omega) (by omega)
  generalize p * q = z at *
  omega
theorem bmul_fn (l m : List Nat) (hl1 : Db 2 l) (hm1 : Db 2 m) (hln : l.length ≤ 2 ^ 36) (hmn : m.length ≤ 2 ^ 36) : Fn Try.prog 210 [.d (ib l), .d (ib m)] [] (.d (ib (db 2 (vb 2 l * vb 2 m)))) [] := by
  obtain ⟨x, hx1, hx2, hx3, hx⟩ := words_fn l hl1 (by omega)
  obtain ⟨y, hy1, hy2, hy3, hy⟩ := words_fn m hm1 (by omega)
  refine fn0 (nt := 73) (res := [.tmp 4]) Try.func210 rfl (by decide) rfl rfl rfl rfl ?_
  intro C hP hnt hl
  obtain ⟨N, hN⟩ : ∃ N, N = x.length + y.length := ⟨_, rfl⟩
  refine awp_sx prog_ok hP hnt [] [] [] [0, 1] (by kernel_rfl) (G := fun K => K (St.mk [(0, V.d (ib l)), (1, V.d (ib m))] [] 1)) (fun K => by kernel_rfl) ?_
  refine awp_sx prog_ok hP hnt [] [.val (.d (ib x)), .val (.d (ib y))] [] [5, 6] (by kernel_rfl) (G := fun K => Fn Try.prog 241 [V.d (ib l)] [] (V.d (ib x)) [] ∧ Fn Try.prog 241 [V.d (ib m)] [] (V.d (ib y)) [] ∧ K (St.mk [(5, V.d (ib x)), (6, V.d (ib y))] [] 7)) (fun K => by kernel_rfl) ?_
  refine ⟨hx, hy, ?_⟩
  refine awp_sx prog_ok hP hnt [(20, .int .i64 N)] [] [] [5, 6, 7] (by kernel_rfl) (G := fun K => IntKind.i64.wrap ((↑x.length : Int) + (↑y.length : Int)) = (↑N : Int) ∧ ((↑N : Int) = (↑N : Int) ∧ (0 : Int) ≤ (↑N : Int) ∧ (↑N : Int) * (↑8 : Int) ≤ (2 : Int) ^ 47) ∧ K (St.mk [(5, V.d (ib x)), (6, V.d (ib y)), (7, V.own 12 0 (↑N : Int).toNat 1)] [(12, some (Blk.mk (zeros (↑N : Int).toNat (TI.mk (Kind.int IntKind.i64) 1 8 [D.int IntKind.i64 (0 : Int)]).zero) true))] 14)) (fun K => by kernel_rfl) ?_
  refine ⟨by rw [w64] <;> omega, by omega, ?_⟩
  refine awp_cut (ι := List Nat) (fun o => ⟨[(7, .own 0 0 N 1)], [(0, some ⟨ibs o, true⟩)], 1⟩) (fun o => o.length = N ∧ Db 32768 o ∧ vb 32768 o = vb 2 l * vb 2 m) ?_ ?_
  · refine awp_sx prog_ok hP hnt [] [] [] [5, 6, 7, 8] (by kernel_rfl) (G := fun K => K (St.mk [(5, V.d (ib x)), (6, V.d (ib y)), (7, V.own 12 0 (↑N : Int).toNat 1), (8, V.d (D.int IntKind.i64 (0 : Int)))] [(12, some (Blk.mk (zeros (↑N : Int).toNat (TI.mk (Kind.int IntKind.i64) 1 8 [D.int IntKind.i64 (0 : Int)]).zero) true))] 15)) (fun K => by kernel_rfl) ?_
    refine awp_block ?_
    refine awp_loop (ι := Nat × List Nat) (fun p => ⟨[(5, .d (ib x)), (6, .d (ib y)), (7, .own 0 0 N 1), (8, .d (.int .i64 p.1))], [(0, some ⟨ibs p.2, true⟩)], 1⟩)
      (fun p => p.1 ≤ x.length ∧ p.2.length = N ∧ Db 32768 p.2 ∧ vb 32768 p.2 = vb 32768 (x.take p.1) * vb 32768 y ∧ ∀ k, p.1 + y.length ≤ k → p.2.getD k 0 = 0) (fun p => x.length - p.1) (0, List.replicate N 0) [(0, 12)]
      ⟨by simp, by simp, (fun d hd => by rw [List.mem_replicate] at hd; omega), by simp [vb_zeros, vb], fun k _ => by simp [List.getD_eq_getElem?_getD, List.getElem?_replicate]; split <;> rfl⟩ ?_ ?_
    · rw [Int.toNat_natCast]
      (constructor <;> simp [hl, envOk, memOk, conv, St.get, St.blk, zeros_ib])
    intro ⟨i, O⟩ ⟨hi, hOl, hOd, hOv, hOz⟩
    simp only at hi hOl hOd hOv hOz ⊢
    refine awp_seq_k fun K hK => ?_
    refine awp_sx prog_ok hP hnt [] [] [] [5, 6, 7, 8, 25] (by kernel_rfl) (G := fun K => K (St.mk [(5, V.d (ib x)), (6, V.d (ib y)), (7, V.own 0 0 N 1), (8, V.d (D.int IntKind.i64 (↑i : Int))), (25, V.d (D.bool (decide ((↑i : Int) < (↑x.length : Int)))))] [(0, some (Blk.mk (ibs O) true))] 5)) (fun K => by kernel_rfl) ?_
    refine awp_cond rfl (fun e => awp_skip (hK _ ?_)) (fun e => awp_exit ⟨O, [(0, 0)], ?_, ?_⟩)
    · simp at e
      obtain ⟨p, hp⟩ := get_ex (l := x) (i := i) e
      have hp2 := db_get hx1 hp
      refine awp_seq_k fun K2 hK2 => ?_
      refine awp_block ?_
      refine awp_sx prog_ok hP hnt [] [] [] [5, 6, 7, 8, 9] (by kernel_rfl) (G := fun K => K (St.mk [(5, V.d (ib x)), (6, V.d (ib y)), (7, V.own 0 0 N 1), (8, V.d (D.int IntKind.i64 (↑i : Int))), (9, V.d (D.int IntKind.i64 (0 : Int)))] [(0, some (Blk.mk (ibs O) true))] 6)) (fun K => by kernel_rfl) ?_
      refine awp_cut (ι := List Nat × Nat) (fun q => ⟨[(5, .d (ib x)), (6, .d (ib y)), (7, .own 0 0 N 1), (8, .d (.int .i64 i)), (9, .d (.int .i64 q.2))], [(0, some ⟨ibs q.1, true⟩)], 1⟩)
        (fun q => q.1.length = N ∧ Db 32768 q.1 ∧ q.2 < 32768 ∧ vb 32768 (q.1.take (i + y.length)) + 32768 ^ (i + y.length) * q.2 = vb 32768 (O.take (i + y.length)) + 32768 ^ i * p * vb 32768 y ∧ ∀ k, i + y.length ≤ k → q.1.getD k 0 = 0) ?_ ?_
      · refine awp_sx prog_ok hP hnt [] [] [] [5, 6, 7, 8, 9, 10] (by kernel_rfl) (G := fun K => K (St.mk [(5, V.d (ib x)), (6, V.d (ib y)), (7, V.own 0 0 N 1), (8, V.d (D.int IntKind.i64 (↑i : Int))), (9, V.d (D.int IntKind.i64 (0 : Int))), (10, V.d (D.int IntKind.i64 (0 : Int)))] [(0, some (Blk.mk (ibs O) true))] 7)) (fun K => by kernel_rfl) ?_
        refine awp_block ?_
        refine awp_loop (ι := Nat × List Nat × Nat) (fun q => ⟨[(5, .d (ib x)), (6, .d (ib y)), (7, .own 0 0 N 1), (8, .d (.int .i64 i)), (9, .d (.int .i64 q.2.2)), (10, .d (.int .i64 q.1))], [(0, some ⟨ibs q.2.1, true⟩)], 1⟩)
          (fun q => q.1 ≤ y.length ∧ q.2.1.length = N ∧ Db 32768 q.2.1 ∧ q.2.2 < 32768 ∧ vb 32768 (q.2.1.take (i + q.1)) + 32768 ^ (i + q.1) * q.2.2 = vb 32768 (O.take (i + q.1)) + 32768 ^ i * p * vb 32768 (y.take q.1) ∧ ∀ k, i + q.1 ≤ k → q.2.1.getD k 0 = O.getD k 0)
          (fun q => y.length - q.1) (0, O, 0) [(0, 0)] ⟨by simp, hOl, hOd, by simp, by simp [vb], fun k _ => rfl⟩ ?_ ?_
        · (constructor <;> simp [hl, envOk, memOk, conv, St.get, St.blk])
        intro ⟨j, o, c⟩ ⟨hj, hol, hod, hc, hv, hz⟩
        simp only at hj hol hod hc hv hz ⊢
        refine awp_seq_k fun K3 hK3 => ?_
        refine awp_sx prog_ok hP hnt [] [] [] [5, 6, 7, 8, 9, 10, 31] (by kernel_rfl) (G := fun K => K (St.mk [(5, V.d (ib x)), (6, V.d (ib y)), (7, V.own 0 0 N 1), (8, V.d (D.int IntKind.i64 (↑i : Int))), (9, V.d (D.int IntKind.i64 (↑c : Int))), (10, V.d (D.int IntKind.i64 (↑j : Int))), (31, V.d (D.bool (decide ((↑j : Int) < (↑y.length : Int)))))] [(0, some (Blk.mk (ibs o) true))] 5)) (fun K => by kernel_rfl) ?_
        refine awp_cond rfl (fun e => awp_skip (hK3 _ ?_)) (fun e => awp_exit ⟨(o, c), [(0, 0)], ?_, ?_⟩)
        · simp at e
          obtain ⟨q, hq⟩ := get_ex (l := y) (i := j) e
          have hq2 := db_get hy1 hq
          obtain ⟨w, hw⟩ := get_ex (l := o) (i := i + j) (by omega)
          have hw2 := db_get hod hw
          have hwO : O[i + j]? = some w := by
            have h1 := hz (i + j) (by omega)
            obtain ⟨w', hw'⟩ := get_ex (l := O) (i := i + j) (by omega)
            rw [List.getD_eq_getElem?_getD, List.getD_eq_getElem?_getD, hw, hw'] at h1
            simp at h1
            rw [hw', h1]
          obtain ⟨hT1, hT2⟩ := mul15 hp2 hq2 hw2 hc
          have hpq : p * q < 1073741824 := by omega
          obtain ⟨T, hT⟩ : ∃ T, T = w + p * q + c := ⟨_, rfl⟩
          have hstep := vb_mulstep (b := 32768) (by omega) hwO hq hT hv
          rw [← hT] at hT1 hT2
          refine awp_seq_k fun K4 hK4 => ?_
          refine awp_block ?_
          refine awp_sx prog_ok hP hnt [(37, .int .i64 (i + j : Nat)), (48, .int .i64 (p * q : Nat)), (49, .int .i64 (w + p * q : Nat)), (51, .int .i64 T)] [] [some [.int .i64 w], some [.int .i64 p], some [.int .i64 q]] [5, 6, 7, 8, 10, 11] (by kernel_rfl) (G := fun K => IntKind.i64.wrap ((↑i : Int) + (↑j : Int)) = (↑(i + j) : Int) ∧ ((0 : Int) ≤ (↑(i + j) : Int) ∧ (↑(i + j) : Int) < (↑N : Int)) ∧ (ibs o)[0 + (↑(i + j) : Int).toNat * 1]? = some (D.int IntKind.i64 (↑w : Int)) ∧ ((0 : Int) ≤ (↑i : Int) ∧ (↑i : Int) < (↑x.length : Int) ∧ ((↑i : Int).toNat + 1) * 1 ≤ (ibs x).length) ∧ (List.drop ((↑i : Int).toNat * 1) (ibs x))[0]? = some (D.int IntKind.i64 (↑p : Int)) ∧ ((0 : Int) ≤ (↑j : Int) ∧ (↑j : Int) < (↑y.length : Int) ∧ ((↑j : Int).toNat + 1) * 1 ≤ (ibs y).length) ∧ (List.drop ((↑j : Int).toNat * 1) (ibs y))[0]? = some (D.int IntKind.i64 (↑q : Int)) ∧ IntKind.i64.wrap ((↑p : Int) * (↑q : Int)) = (↑(p * q) : Int) ∧ IntKind.i64.wrap ((↑w : Int) + (↑(p * q) : Int)) = (↑(w + p * q) : Int) ∧ IntKind.i64.wrap ((↑(w + p * q) : Int) + (↑c : Int)) = (↑T : Int) ∧ K (St.mk [(5, V.d (ib x)), (6, V.d (ib y)), (7, V.own 0 0 N 1), (8, V.d (D.int IntKind.i64 (↑i : Int))), (10, V.d (D.int IntKind.i64 (↑j : Int))), (11, V.d (D.int IntKind.i64 (↑T : Int)))] [(0, some (Blk.mk (ibs o) true))] 24)) (fun K => by kernel_rfl) ?_
          refine ⟨by rw [w64] <;> omega, ⟨by omega, by omega⟩, by rw [Int.toNat_natCast, Nat.zero_add, Nat.mul_one]; exact ibs_some hw, ⟨by omega, by omega, by simp; omega⟩, drop0 (ibs_some hp), ⟨by omega, by omega, by simp; omega⟩, drop0 (ibs_some hq), by rw [← Int.natCast_mul]; exact i64nat (by omega), by rw [← Int.natCast_add]; exact i64nat (by omega), by rw [← Int.natCast_add, ← hT]; exact i64nat (by omega), ?_⟩
          have hsc := setCells_ib o (i + j) (T % 32768)
          refine awp_sx prog_ok hP hnt [(55, .int .i64 (i + j : Nat)), (57, .int .i64 (T % 32768 : Nat))] [] [] [5, 6, 7, 8, 10, 11] (by kernel_rfl) (G := fun K => IntKind.i64.wrap ((↑i : Int) + (↑j : Int)) = (↑(i + j) : Int) ∧ (32768 : Int) ≠ (0 : Int) ∧ (↑T : Int).tmod (32768 : Int) = (↑(T % 32768) : Int) ∧ ((0 : Int) ≤ (↑(i + j) : Int) ∧ (↑(i + j) : Int) < (↑N : Int)) ∧ 0 + (↑(i + j) : Int).toNat * 1 + [D.int IntKind.i64 (↑(T % 32768) : Int)].length ≤ (ibs o).length ∧ K (St.mk [(5, V.d (ib x)), (6, V.d (ib y)), (7, V.own 0 0 N 1), (8, V.d (D.int IntKind.i64 (↑i : Int))), (10, V.d (D.int IntKind.i64 (↑j : Int))), (11, V.d (D.int IntKind.i64 (↑T : Int)))] [(0, some (Blk.mk (setCells (ibs o) (0 + (↑(i + j) : Int).toNat * 1) [D.int IntKind.i64 (↑(T % 32768) : Int)]) true))] 32)) (fun K => by kernel_rfl) ?_
          refine ⟨by rw [w64] <;> omega, by decide, tmodN T 32768, ⟨by omega, by omega⟩, by rw [Int.toNat_natCast, ibs_len, hol]; show 0 + (i + j) * 1 + 1 ≤ N; omega, ?_⟩
          refine awp_x prog_ok hP hnt [(60, .int .i64 (T / 32768 : Nat))] [] [] [5, 6, 7, 8, 9, 10] (by kernel_rfl) (G := fun K => (32768 : Int) ≠ (0 : Int) ∧ IntKind.i64.wrap ((↑T : Int).tdiv (32768 : Int)) = (↑(T / 32768) : Int) ∧ K (St.mk [(5, V.d (ib x)), (6, V.d (ib y)), (7, V.own 0 0 N 1), (8, V.d (D.int IntKind.i64 (↑i : Int))), (10, V.d (D.int IntKind.i64 (↑j : Int))), (9, V.d (D.int IntKind.i64 (↑(T / 32768) : Int)))] [(0, some (Blk.mk (setCells (ibs o) (0 + (↑(i + j) : Int).toNat * 1) [D.int IntKind.i64 (↑(T % 32768) : Int)]) true))] 35)) (fun K => by kernel_rfl) ?_
          refine ⟨by decide, tdivN T 32768 (by omega), hK4 _ ?_⟩
          refine awp_x prog_ok hP hnt [(33, .int .i64 (j + 1 : Nat))] [] [] [5, 6, 7, 8, 9, 10] (by kernel_rfl) (G := fun K => IntKind.i64.wrap ((↑j : Int) + (1 : Int)) = (↑(j + 1) : Int) ∧ K (St.mk [(5, V.d (ib x)), (6, V.d (ib y)), (7, V.own 0 0 N 1), (8, V.d (D.int IntKind.i64 (↑i : Int))), (10, V.d (D.int IntKind.i64 (↑(j + 1) : Int))), (9, V.d (D.int IntKind.i64 (↑(T / 32768) : Int)))] [(0, some (Blk.mk (setCells (ibs o) (0 + (↑(i + j) : Int).toNat * 1) [D.int IntKind.i64 (↑(T % 32768) : Int)]) true))] 38)) (fun K => by kernel_rfl) ?_
          refine ⟨by rw [w64] <;> omega, (j + 1, o.set (i + j) (T % 32768), T / 32768), [(0, 0)], ⟨⟨by omega, by simp [hol], db_set hod (by omega), hT2, hstep, fun k hk => ?_⟩, by simp only; omega⟩, ?_⟩
          · rw [← hz k (by omega), List.getD_eq_getElem?_getD, List.getElem?_set, if_neg (by omega), List.getD_eq_getElem?_getD]
          · rw [Int.toNat_natCast, Nat.mul_one, Nat.zero_add, hsc]
            (constructor <;> simp [hl, envOk, memOk, conv, St.get, St.blk])
        · simp at e
          have : j = y.length := by omega
          subst this
          rw [List.take_length] at hv
          exact ⟨hol, hod, hc, hv, fun k hk => by rw [hz k hk, hOz k hk]⟩
        · (constructor <;> simp [hl, envOk, memOk, conv, St.get, St.blk])
      intro ⟨o, c⟩ ⟨hol, hod, hc, hv, hz⟩
      simp only at hol hod hc hv hz ⊢
      obtain ⟨w, hw⟩ := get_ex (l := o) (i := i + y.length) (by omega)
      have hw0 : w = 0 := by
        have := hz (i + y.length) (by omega)
        rw [List.getD_eq_getElem?_getD, hw] at this
        simpa using this
      subst hw0
      refine awp_x prog_ok hP hnt [(65, .int .i64 (i + y.length : Nat)), (69, .int .i64 c)] [] [some [.int .i64 (0 : Nat)]] [5, 6, 7, 8] (by kernel_rfl) (G := fun K => IntKind.i64.wrap ((↑i : Int) + (↑y.length : Int)) = (↑(i + y.length) : Int) ∧ ((0 : Int) ≤ (↑(i + y.length) : Int) ∧ (↑(i + y.length) : Int) < (↑N : Int)) ∧ (ibs o)[0 + (↑(i + y.length) : Int).toNat * 1]? = some (D.int IntKind.i64 (↑0 : Int)) ∧ IntKind.i64.wrap ((↑0 : Int) + (↑c : Int)) = (↑c : Int) ∧ ((0 : Int) ≤ (↑(i + y.length) : Int) ∧ (↑(i + y.length) : Int) < (↑N : Int)) ∧ 0 + (↑(i + y.length) : Int).toNat * 1 + [D.int IntKind.i64 (↑c : Int)].length ≤ (ibs o).length ∧ K (St.mk [(5, V.d (ib x)), (6, V.d (ib y)), (7, V.own 0 0 N 1), (8, V.d (D.int IntKind.i64 (↑i : Int)))] [(0, some (Blk.mk (setCells (ibs o) (0 + (↑(i + y.length) : Int).toNat * 1) [D.int IntKind.i64 (↑c : Int)]) true))] 12)) (fun K => by kernel_rfl) ?_
      have hsc := setCells_ib o (i + y.length) c
      refine ⟨by rw [w64] <;> omega, ⟨by omega, by omega⟩, by rw [Int.toNat_natCast, Nat.zero_add, Nat.mul_one]; exact ibs_some hw, by rw [w64] <;> omega, ⟨by omega, by omega⟩, by rw [Int.toNat_natCast, ibs_len, hol]; show 0 + (i + y.length) * 1 + 1 ≤ N; omega, hK2 _ ?_⟩
      refine awp_x prog_ok hP hnt [(27, .int .i64 (i + 1 : Nat))] [] [] [5, 6, 7, 8] (by kernel_rfl) (G := fun K => IntKind.i64.wrap ((↑i : Int) + (1 : Int)) = (↑(i + 1) : Int) ∧ K (St.mk [(5, V.d (ib x)), (6, V.d (ib y)), (7, V.own 0 0 N 1), (8, V.d (D.int IntKind.i64 (↑(i + 1) : Int)))] [(0, some (Blk.mk (setCells (ibs o) (0 + (↑(i + y.length) : Int).toNat * 1) [D.int IntKind.i64 (↑c : Int)]) true))] 15)) (fun K => by kernel_rfl) ?_
      have hput := vb_put (b := 32768) (l := o) (i := i + y.length) c (by omega)
      rw [List.getD_eq_getElem?_getD, hw] at hput
      have hvo : vb 32768 o = vb 32768 (o.take (i + y.length)) := by
        rw [vb_splitb 32768 o (i + y.length)]
        have h1 : o.getD (i + y.length) 0 = 0 := hz _ (by omega)
        have h2 : vb 32768 (o.drop (i + y.length + 1)) = 0 := by
          have : o.drop (i + y.length + 1) = List.replicate (o.length - (i + y.length + 1)) 0 := by
            apply List.ext_getElem?
            intro k
            rw [List.getElem?_drop, List.getElem?_replicate]
            by_cases hk : i + y.length + 1 + k < o.length
            · obtain ⟨z, hz'⟩ := get_ex (l := o) hk
              have := hz (i + y.length + 1 + k) (by omega)
              rw [List.getD_eq_getElem?_getD, hz'] at this
              simp at this
              rw [hz', if_pos (by omega), this]
            · rw [List.getElem?_eq_none (by omega), if_neg (by omega)]
          rw [this, vb_zeros]
        rw [h1, h2]; simp
      have hvO : vb 32768 O = vb 32768 (O.take (i + y.length)) := by
        have := vb_append (b := 32768) (O.take (i + y.length)) (O.drop (i + y.length))
        rw [List.take_append_drop] at this
        have h2 : vb 32768 (O.drop (i + y.length)) = 0 := by
          have : O.drop (i + y.length) = List.replicate (O.length - (i + y.length)) 0 := by
            apply List.ext_getElem?
            intro k
            rw [List.getElem?_drop, List.getElem?_replicate]
            by_cases hk : i + y.length + k < O.length
            · obtain ⟨z, hz'⟩ := get_ex (l := O) hk
              have := hOz (i + y.length + k) (by omega)
              rw [List.getD_eq_getElem?_getD, hz'] at this
              simp at this
              rw [hz', if_pos (by omega), this]
            · rw [List.getElem?_eq_none (by omega), if_neg (by omega)]
          rw [this, vb_zeros]
        rw [h2] at this
        omega
      refine ⟨by rw [w64] <;> omega, (i + 1, o.set (i + y.length) c), [(0, 0)], ⟨⟨by omega, by simp [hol], db_set hod hc, ?_, fun k hk => ?_⟩, by simp only; omega⟩, ?_⟩
      · simp only at hput ⊢
        rw [vb_take_succ hp, Nat.add_mul, ← hOv, hvO, ← hv, ← hvo]
        simp at hput
        omega
      · show (o.set (i + y.length) c).getD k 0 = 0
        rw [List.getD_eq_getElem?_getD, List.getElem?_set, if_neg (by omega), ← List.getD_eq_getElem?_getD]
        exact hz k (by omega)
      · rw [Int.toNat_natCast, Nat.mul_one, Nat.zero_add, hsc]
        (constructor <;> simp [hl, envOk, memOk, conv, St.get, St.blk])
    · simp at e
      have : i = x.length := by omega
      subst this
      rw [List.take_length, hx2, hy2] at hOv
      exact ⟨hOl, hOd, hOv⟩
    · (constructor <;> simp [hl, envOk, memOk, conv, St.get, St.blk])
  intro o ⟨hol, hod, hov⟩
  have hb := bits_fn o hod (by omega)
  rw [hov] at hb
  refine awp_sx prog_ok hP hnt [] [.val (.d (ib (db 2 (vb 2 l * vb 2 m))))] [] [4] (by kernel_rfl) (G := fun K => Fn Try.prog 242 [V.d (D.lst N (List.take (N * 1) (List.drop 0 (ibs o))))] [] (V.d (ib (db 2 (vb 2 l * vb 2 m)))) [] ∧ K (St.mk [(4, V.d (ib (db 2 (vb 2 l * vb 2 m))))] [(0, some (Blk.mk (ibs o) false))] 4)) (fun K => by kernel_rfl) ?_
  refine ⟨?_, awp_ret ⟨.inl rfl, retD rfl⟩⟩
  have := own_fm i1_len hol
  rw [this]
  exact hb
end Go.Abs

set_option linter.unusedVariables false
set_option linter.unusedSimpArgs false
namespace Go.Abs
open Go Go.Proofs
set_option maxRecDepth 100000

theorem zc_zero : zc 0 = [.int .i64 0, .lst 0 []] := by simp [zc, ib, db_zero, fm]
theorem zc_sgn {s : Bool} {n : Nat} (h : n ≠ 0) : zc (sgn s n) = [.int .i64 (if s then -1 else 1), ib (db 2 n)] := by
  unfold zc
  rw [sgn_abs]
  congr 2
  unfold sgn
  cases s
  · simp; omega
  · simp; omega

theorem zmake_fn (s : Bool) (l : List Nat) (h : Db 2 l) (hn : l.length ≤ 2 ^ 40) : Fn Try.prog 59 [.d (.bool s), .d (ib l)] [] (.agg (zc (sgn s (vb 2 l)))) [] := by
  refine fn0 (nt := 16) (res := [.cell 4 31]) Try.func59 rfl (by decide) rfl rfl rfl rfl ?_
  intro C hP hnt hl
  obtain ⟨N, hN⟩ : ∃ N, N = vb 2 l := ⟨_, rfl⟩
  have ht := btrim_fn l h hn
  rw [← hN] at ht ⊢
  have hlen : (db 2 N).length ≤ 2 ^ 40 := by
    have h1 := vb_lt (b := 2) (by omega) h
    rw [← hN] at h1
    exact Nat.le_trans (db_len (by omega) h1) hn
  refine awp_sx prog_ok hP hnt [] [] [] [0, 1, 4] (by kernel_rfl) (G := fun K => K (St.mk [(0, V.d (D.bool s)), (1, V.d (ib l)), (4, V.ptr 0 0)] [(0, some (Blk.mk [D.int IntKind.i64 (0 : Int), D.lst 0 []] true))] 1)) (fun K => by kernel_rfl) ?_
  refine awp_sx prog_ok hP hnt [] [.val (.d (ib (db 2 N)))] [] [0, 1, 4] (by kernel_rfl) (G := fun K => Fn Try.prog 166 [V.d (ib l)] [] (V.d (ib (db 2 N))) [] ∧ K (St.mk [(0, V.d (D.bool s)), (1, V.d (ib (db 2 N))), (4, V.ptr 0 0)] [(0, some (Blk.mk [D.int IntKind.i64 (0 : Int), D.lst 0 []] true))] 4)) (fun K => by kernel_rfl) ?_
  refine ⟨ht, ?_⟩
  refine awp_seq_k fun K hK => ?_
  refine awp_sx prog_ok hP hnt [] [] [] [0, 1, 4, 9] (by kernel_rfl) (G := fun K => K (St.mk [(0, V.d (D.bool s)), (1, V.d (ib (db 2 N))), (4, V.ptr 0 0), (9, V.d (D.bool ((↑(db 2 N).length : Int) == (0 : Int))))] [(0, some (Blk.mk [D.int IntKind.i64 (0 : Int), D.lst 0 []] true))] 7)) (fun K => by kernel_rfl) ?_
  refine awp_cond rfl (fun e => ?_) (fun e => awp_skip (hK _ ?_))
  · simp at e
    have h0 : N = 0 := (db_nil (b := 2) (by omega)).1 e
    subst h0
    refine awp_sx prog_ok hP hnt [] [] [] [4] (by kernel_rfl) (G := fun K => 2 ≤ [D.int IntKind.i64 (0 : Int), D.lst 0 []].length ∧ K (St.mk [(4, V.ptr 0 0)] [(0, some (Blk.mk [D.int IntKind.i64 (0 : Int), D.lst 0 []] true))] 9)) (fun K => by kernel_rfl) ?_
    refine ⟨by simp, awp_ret ⟨.inl rfl, ?_⟩⟩
    rw [show sgn s 0 = 0 by unfold sgn; split <;> rfl, zc_zero]
    exact retC (l := true) rfl rfl rfl rfl
  · simp at e
    have h0 : N ≠ 0 := fun h0 => e (by rw [h0, db_zero])
    rw [zc_sgn h0]
    refine awp_seq_k fun K2 hK2 => ?_
    refine awp_sx prog_ok hP hnt [] [] [] [1, 4, 11] (by kernel_rfl) (G := fun K => K (St.mk [(1, V.d (ib (db 2 N))), (4, V.ptr 0 0), (11, V.d (D.bool s))] [(0, some (Blk.mk [D.int IntKind.i64 (0 : Int), D.lst 0 []] true))] 8)) (fun K => by kernel_rfl) ?_
    refine awp_cond rfl (fun e => ?_) (fun e => awp_skip (hK2 _ ?_))
    · subst e
      refine awp_sx prog_ok hP hnt [] [] [] [4] (by kernel_rfl) (G := fun K => 0 + (setCells (setCells (TI.mk (Kind.struct [(0, 1), (1, 1)]) 2 32 [D.int IntKind.i64 (0 : Int), D.lst 0 []]).zero 0 [D.int IntKind.i64 (-1 : Int)]) 1 [ib (db 2 N)]).length ≤ [D.int IntKind.i64 (0 : Int), D.lst 0 []].length ∧ K (St.mk [(4, V.ptr 0 0)] [(0, some (Blk.mk [D.int IntKind.i64 (-1 : Int), ib (db 2 N)] true))] 11)) (fun K => by kernel_rfl) ?_
      exact ⟨by simp, awp_ret ⟨.inl rfl, retC (l := true) rfl rfl rfl rfl⟩⟩
    · subst e
      refine awp_sx prog_ok hP hnt [] [] [] [4] (by kernel_rfl) (G := fun K => 0 + (setCells (setCells (TI.mk (Kind.struct [(0, 1), (1, 1)]) 2 32 [D.int IntKind.i64 (0 : Int), D.lst 0 []]).zero 0 [D.int IntKind.i64 (1 : Int)]) 1 [ib (db 2 N)]).length ≤ [D.int IntKind.i64 (0 : Int), D.lst 0 []].length ∧ K (St.mk [(4, V.ptr 0 0)] [(0, some (Blk.mk [D.int IntKind.i64 (1 : Int), ib (db 2 N)] true))] 11)) (fun K => by kernel_rfl) ?_
      exact ⟨by simp, awp_ret ⟨.inl rfl, retC (l := true) rfl rfl rfl rfl⟩⟩

theorem dblen {K n : Nat} (h : n < 2 ^ K) : (db 2 n).length ≤ K := db_len (by omega) h
theorem db2 (n : Nat) : Db 2 (db 2 n) := db_lt (by omega) n
theorem vbdb (n : Nat) : vb 2 (db 2 n) = n := vb_db (by omega) n

theorem zof_fn (s : Bool) (l : List Nat) (h : Dg l) (hn : l.length ≤ 2 ^ 34) : Fn Try.prog 159 [.d (.bool s), .d (du l)] [] (.agg (zc (ival s l))) [] := by
  refine fn0 (nt := 9) (res := [.cell 4 31]) Try.func159 rfl (by decide) rfl rfl rfl rfl ?_
  intro C hP hnt hl
  have h1 := bof_fn l h hn
  have hlt : val l < 2 ^ (32 * l.length) := by
    have := val_lt h
    rwa [show (4294967296 : Nat) = 2 ^ 32 by rfl, ← Nat.pow_mul] at this
  have h2 := zmake_fn s (db 2 (val l)) (db2 _) (by have := dblen hlt; omega)
  rw [vbdb] at h2
  refine awp_sx prog_ok hP hnt [] [] [] [0, 1, 4] (by kernel_rfl) (G := fun K => K (St.mk [(0, V.d (D.bool s)), (1, V.d (du l)), (4, V.ptr 0 0)] [(0, some (Blk.mk [D.int IntKind.i64 (0 : Int), D.lst 0 []] true))] 1)) (fun K => by kernel_rfl) ?_
  refine awp_sx prog_ok hP hnt [] [.val (.d (ib (db 2 (val l)))), .val (.agg (zc (ival s l)))] [] [4] (by kernel_rfl) (G := fun K => Fn Try.prog 209 [V.d (du l)] [] (V.d (ib (db 2 (val l)))) [] ∧ Fn Try.prog 59 [V.d (D.bool s), V.d (ib (db 2 (val l)))] [] (V.agg [D.int IntKind.i64 (ival s l).sign, ib (db 2 (ival s l).natAbs)]) [] ∧ 0 + (zc (ival s l)).length ≤ [D.int IntKind.i64 (0 : Int), D.lst 0 []].length ∧ K (St.mk [(4, V.ptr 0 0)] [(0, some (Blk.mk [D.int IntKind.i64 (ival s l).sign, ib (db 2 (ival s l).natAbs)] true))] 6)) (fun K => by kernel_rfl) ?_
  exact ⟨h1, h2, by simp [zc_len], awp_ret ⟨.inl rfl, retC (l := true) rfl rfl rfl rfl⟩⟩
theorem z_fn (s : Bool) (l : List Nat) (h : Dg l) (hn : l.length ≤ 2 ^ 34) : Fn Try.prog 52 [.agg (ic s l)] [] (.agg (zc (ival s l))) [] := by
  refine fn0 (nt := 8) (res := [.cell 2 31]) Try.func52 rfl (by decide) rfl rfl rfl rfl ?_
  intro C hP hnt hl
  have h1 := zof_fn s l h hn
  refine awp_sx prog_ok hP hnt [] [] [] [1, 2] (by kernel_rfl) (G := fun K => K (St.mk [(1, V.ptr 0 0), (2, V.ptr 1 0)] [(0, some (Blk.mk [D.bool s, du l] true)), (1, some (Blk.mk [D.int IntKind.i64 (0 : Int), D.lst 0 []] true))] 2)) (fun K => by kernel_rfl) ?_
  refine awp_sx prog_ok hP hnt [] [.val (.agg (zc (ival s l)))] [] [2] (by kernel_rfl) (G := fun K => Fn Try.prog 159 [V.d (D.bool s), V.d (du l)] [] (V.agg [D.int IntKind.i64 (ival s l).sign, ib (db 2 (ival s l).natAbs)]) [] ∧ 0 + (zc (ival s l)).length ≤ [D.int IntKind.i64 (0 : Int), D.lst 0 []].length ∧ K (St.mk [(2, V.ptr 1 0)] [(0, some (Blk.mk [D.bool s, du l] true)), (1, some (Blk.mk [D.int IntKind.i64 (ival s l).sign, ib (db 2 (ival s l).natAbs)] true))] 8)) (fun K => by kernel_rfl) ?_
  exact ⟨h1, by simp [zc_len], awp_ret ⟨.inl rfl, retC (l := true) rfl rfl rfl rfl⟩⟩
theorem sgn_mul (s : Bool) (x y : Nat) : sgn s (x * y) = sgn s x * y := by unfold sgn; split <;> simp [Int.natCast_mul, Int.neg_mul]
theorem zmul_fn (x y : Int) {K : Nat} (hK : K ≤ 2 ^ 36) (hx : x.natAbs < 2 ^ K) (hy : y.natAbs < 2 ^ K) : Fn Try.prog 162 [.agg (zc x), .agg (zc y)] [] (.agg (zc (x * y))) [] := by
  refine fn0 (nt := 17) (res := [.cell 4 31]) Try.func162 rfl (by decide) rfl rfl rfl rfl ?_
  intro C hP hnt hl
  have h1 := bmul_fn (db 2 x.natAbs) (db 2 y.natAbs) (db2 _) (db2 _) (Nat.le_trans (dblen hx) hK) (Nat.le_trans (dblen hy) hK)
  rw [vbdb, vbdb] at h1
  have hlt : x.natAbs * y.natAbs < 2 ^ (K + K) := by
    rw [Nat.pow_add]
    exact Nat.lt_of_le_of_lt (Nat.mul_le_mul_left _ (Nat.le_of_lt hy)) (Nat.mul_lt_mul_of_pos_right hx (Nat.pow_pos (by omega)))
  have h2 := zmake_fn (decide (x.sign * y.sign < 0)) (db 2 (x.natAbs * y.natAbs)) (db2 _) (by have := dblen hlt; omega)
  rw [vbdb] at h2
  have hs : -1 ≤ x.sign ∧ x.sign ≤ 1 ∧ -1 ≤ y.sign ∧ y.sign ≤ 1 := by
    rcases Int.lt_trichotomy x 0 with h | h | h <;> rcases Int.lt_trichotomy y 0 with h' | h' | h' <;> simp [Int.sign_eq_one_of_pos, Int.sign_eq_neg_one_of_neg, h, h']
  have e : sgn (decide (x.sign * y.sign < 0)) (x.natAbs * y.natAbs) = x * y := by
    rw [← Int.natAbs_mul, ← Int.sign_mul]
    generalize x * y = z
    unfold sgn
    rcases Int.lt_trichotomy z 0 with h | h | h
    · simp [Int.sign_eq_neg_one_of_neg h]; omega
    · subst h; rfl
    · simp [Int.sign_eq_one_of_pos h]; omega
  rw [e] at h2
  have hw : IntKind.i64.wrap (x.sign * y.sign) = x.sign * y.sign := by
    rw [← Int.sign_mul]
    generalize x * y = z
    rcases Int.lt_trichotomy z 0 with h | h | h
    · rw [Int.sign_eq_neg_one_of_neg h]; rfl
    · subst h; rfl
    · rw [Int.sign_eq_one_of_pos h]; rfl
  refine awp_sx prog_ok hP hnt [] [] [] [2, 3, 4] (by kernel_rfl) (G := fun K => K (St.mk [(2, V.ptr 0 0), (3, V.ptr 1 0), (4, V.ptr 2 0)] [(0, some (Blk.mk [D.int IntKind.i64 x.sign, ib (db 2 x.natAbs)] true)), (1, some (Blk.mk [D.int IntKind.i64 y.sign, ib (db 2 y.natAbs)] true)), (2, some (Blk.mk [D.int IntKind.i64 (0 : Int), D.lst 0 []] true))] 3)) (fun K => by kernel_rfl) ?_
  refine awp_sx prog_ok hP hnt [(9, .int .i64 (x.sign * y.sign))] [.val (.d (ib (db 2 (x.natAbs * y.natAbs)))), .val (.agg (zc (x * y)))] [] [4] (by kernel_rfl) (G := fun K => IntKind.i64.wrap (x.sign * y.sign) = x.sign * y.sign ∧ Fn Try.prog 210 [V.d (ib (db 2 x.natAbs)), V.d (ib (db 2 y.natAbs))] [] (V.d (ib (db 2 (x.natAbs * y.natAbs)))) [] ∧ Fn Try.prog 59 [V.d (D.bool (decide (x.sign * y.sign < (0 : Int)))), V.d (ib (db 2 (x.natAbs * y.natAbs)))] [] (V.agg [D.int IntKind.i64 (x * y).sign, ib (db 2 (x * y).natAbs)]) [] ∧ 0 + (zc (x * y)).length ≤ [D.int IntKind.i64 (0 : Int), D.lst 0 []].length ∧ K (St.mk [(4, V.ptr 2 0)] [(0, some (Blk.mk [D.int IntKind.i64 x.sign, ib (db 2 x.natAbs)] true)), (1, some (Blk.mk [D.int IntKind.i64 y.sign, ib (db 2 y.natAbs)] true)), (2, some (Blk.mk [D.int IntKind.i64 (x * y).sign, ib (db 2 (x * y).natAbs)] true))] 16)) (fun K => by kernel_rfl) ?_
  exact ⟨hw, h1, h2, by simp [zc_len], awp_ret ⟨.inl rfl, retC (l := true) rfl rfl rfl rfl⟩⟩
theorem zneg_fn (x : Int) : Fn Try.prog 198 [.agg (zc x)] [] (.agg (zc (-x))) [] := by
  refine fn0 (nt := 9) (res := [.cell 2 31]) Try.func198 rfl (by decide) rfl rfl rfl rfl ?_
  intro C hP hnt hl
  have e : zc (-x) = [.int .i64 (-x.sign), ib (db 2 x.natAbs)] := by rw [zc, Int.sign_neg, Int.natAbs_neg]
  rw [e]
  refine awp_sx prog_ok hP hnt [] [] [] [1, 2] (by kernel_rfl) (G := fun K => K (St.mk [(1, V.ptr 0 0), (2, V.ptr 1 0)] [(0, some (Blk.mk [D.int IntKind.i64 x.sign, ib (db 2 x.natAbs)] true)), (1, some (Blk.mk [D.int IntKind.i64 (0 : Int), D.lst 0 []] true))] 2)) (fun K => by kernel_rfl) ?_
  refine awp_sx prog_ok hP hnt [(5, .int .i64 (-x.sign))] [] [] [2] (by kernel_rfl) (G := fun K => IntKind.i64.wrap ((0 : Int) - x.sign) = -x.sign ∧ 0 + (setCells (setCells (TI.mk (Kind.struct [(0, 1), (1, 1)]) 2 32 [D.int IntKind.i64 (0 : Int), D.lst 0 []]).zero 0 [D.int IntKind.i64 (-x.sign)]) 1 [ib (db 2 x.natAbs)]).length ≤ [D.int IntKind.i64 (0 : Int), D.lst 0 []].length ∧ K (St.mk [(2, V.ptr 1 0)] [(0, some (Blk.mk [D.int IntKind.i64 x.sign, ib (db 2 x.natAbs)] true)), (1, some (Blk.mk [D.int IntKind.i64 (-x.sign), ib (db 2 x.natAbs)] true))] 9)) (fun K => by kernel_rfl) ?_
  refine ⟨?_, by simp, awp_ret ⟨.inl rfl, retC (l := true) rfl rfl rfl rfl⟩⟩
  rcases Int.lt_trichotomy x 0 with h | h | h
  · rw [Int.sign_eq_neg_one_of_neg h]; rfl
  · subst h; rfl
  · rw [Int.sign_eq_one_of_pos h]; rfl
theorem sgn3 (x : Int) : (x < 0 ∧ x.sign = -1) ∨ (x = 0 ∧ x.sign = 0) ∨ (0 < x ∧ x.sign = 1) := by
  rcases Int.lt_trichotomy x 0 with h | h | h
  · exact .inl ⟨h, Int.sign_eq_neg_one_of_neg h⟩
  · exact .inr (.inl ⟨h, by rw [h]; rfl⟩)
  · exact .inr (.inr ⟨h, Int.sign_eq_one_of_pos h⟩)
theorem zcmp_fn (x y : Int) {K : Nat} (hK : K ≤ 2 ^ 36) (hx : x.natAbs < 2 ^ K) (hy : y.natAbs < 2 ^ K) : Fn Try.prog 60 [.agg (zc x), .agg (zc y)] [] (.d (.int .i64 (cmpZ x y))) [] := by
  refine fn0 (nt := 23) (res := [.tmp 4]) Try.func60 rfl (by decide) rfl rfl rfl rfl ?_
  intro C hP hnt hl
  have h1 := bcmp_fn (db 2 x.natAbs) (db 2 y.natAbs) (db2 _) (db2 _) (Nat.le_trans (dblen hx) (by omega)) (Nat.le_trans (dblen hy) (by omega))
  rw [vbdb, vbdb] at h1
  have hx3 := sgn3 x
  have hy3 := sgn3 y
  have hfin : x.sign = y.sign → x.sign * cmpI x.natAbs y.natAbs = cmpZ x y := fun e => by
    unfold cmpI cmpZ
    rcases hx3 with ⟨a1, a2⟩ | ⟨a1, a2⟩ | ⟨a1, a2⟩ <;> rcases hy3 with ⟨b1, b2⟩ | ⟨b1, b2⟩ | ⟨b1, b2⟩ <;> rw [a2, b2] at e <;> first | (exfalso; omega) | (rw [a2]; repeat' split) <;> omega
  have hne : x.sign ≠ y.sign → cmpZ x y = if x.sign < y.sign then -1 else 1 := fun e => by
    unfold cmpZ
    rcases hx3 with ⟨a1, a2⟩ | ⟨a1, a2⟩ | ⟨a1, a2⟩ <;> rcases hy3 with ⟨b1, b2⟩ | ⟨b1, b2⟩ | ⟨b1, b2⟩ <;> rw [a2, b2] at e ⊢ <;> first | (exfalso; omega) | (repeat' split) <;> omega
  have hw : IntKind.i64.wrap (x.sign * cmpI x.natAbs y.natAbs) = x.sign * cmpI x.natAbs y.natAbs := by
    have hc : cmpI x.natAbs y.natAbs = 1 ∨ cmpI x.natAbs y.natAbs = -1 ∨ cmpI x.natAbs y.natAbs = 0 := by unfold cmpI; split; · left; rfl
                                                                                                          · split; · right; left; rfl
                                                                                                            · right; right; rfl
    rcases hx3 with ⟨a1, a2⟩ | ⟨a1, a2⟩ | ⟨a1, a2⟩ <;> rcases hc with h | h | h <;> rw [a2, h] <;> rfl
  refine awp_sx prog_ok hP hnt [] [] [] [2, 3] (by kernel_rfl) (G := fun K => K (St.mk [(2, V.ptr 0 0), (3, V.ptr 1 0)] [(0, some (Blk.mk [D.int IntKind.i64 x.sign, ib (db 2 x.natAbs)] true)), (1, some (Blk.mk [D.int IntKind.i64 y.sign, ib (db 2 y.natAbs)] true))] 3)) (fun K => by kernel_rfl) ?_
  refine awp_seq_k fun K hK => ?_
  refine awp_sx prog_ok hP hnt [] [] [] [2, 3, 9] (by kernel_rfl) (G := fun K => K (St.mk [(2, V.ptr 0 0), (3, V.ptr 1 0), (9, V.d (D.bool (x.sign != y.sign)))] [(0, some (Blk.mk [D.int IntKind.i64 x.sign, ib (db 2 x.natAbs)] true)), (1, some (Blk.mk [D.int IntKind.i64 y.sign, ib (db 2 y.natAbs)] true))] 8)) (fun K => by kernel_rfl) ?_
  refine awp_cond rfl (fun e => ?_) (fun e => awp_skip (hK _ ?_))
  · simp at e
    have hne := hne e
    refine awp_seq_k fun K2 hK2 => ?_
    refine awp_sx prog_ok hP hnt [] [] [] [14] (by kernel_rfl) (G := fun K => K (St.mk [(14, V.d (D.bool (decide (x.sign < y.sign))))] [(0, some (Blk.mk [D.int IntKind.i64 x.sign, ib (db 2 x.natAbs)] true)), (1, some (Blk.mk [D.int IntKind.i64 y.sign, ib (db 2 y.natAbs)] true))] 13)) (fun K => by kernel_rfl) ?_
    refine awp_cond rfl (fun e2 => ?_) (fun e2 => awp_skip (hK2 _ ?_))
    · simp at e2
      refine awp_sx prog_ok hP hnt [] [] [] [4] (by kernel_rfl) (G := fun K => K (St.mk [(4, V.d (D.int IntKind.i64 (-1 : Int)))] [(0, some (Blk.mk [D.int IntKind.i64 x.sign, ib (db 2 x.natAbs)] true)), (1, some (Blk.mk [D.int IntKind.i64 y.sign, ib (db 2 y.natAbs)] true))] 14)) (fun K => by kernel_rfl) ?_
      refine awp_ret ⟨.inl rfl, retD ?_⟩
      rw [hne, if_pos e2]; rfl
    · simp at e2
      refine awp_sx prog_ok hP hnt [] [] [] [4] (by kernel_rfl) (G := fun K => K (St.mk [(4, V.d (D.int IntKind.i64 (1 : Int)))] [(0, some (Blk.mk [D.int IntKind.i64 x.sign, ib (db 2 x.natAbs)] true)), (1, some (Blk.mk [D.int IntKind.i64 y.sign, ib (db 2 y.natAbs)] true))] 14)) (fun K => by kernel_rfl) ?_
      refine awp_ret ⟨.inl rfl, retD ?_⟩
      rw [hne, if_neg (by omega)]; rfl
  · simp at e
    refine awp_sx prog_ok hP hnt [(22, .int .i64 (cmpZ x y))] [.val (.d (.int .i64 (cmpI x.natAbs y.natAbs)))] [] [4] (by kernel_rfl) (G := fun K => Fn Try.prog 167 [V.d (ib (db 2 x.natAbs)), V.d (ib (db 2 y.natAbs))] [] (V.d (D.int IntKind.i64 (cmpI x.natAbs y.natAbs))) [] ∧ IntKind.i64.wrap (x.sign * cmpI x.natAbs y.natAbs) = cmpZ x y ∧ K (St.mk [(4, V.d (D.int IntKind.i64 (cmpZ x y)))] [(0, some (Blk.mk [D.int IntKind.i64 x.sign, ib (db 2 x.natAbs)] true)), (1, some (Blk.mk [D.int IntKind.i64 y.sign, ib (db 2 y.natAbs)] true))] 17)) (fun K => by kernel_rfl) ?_
    exact ⟨h1, by rw [hw, hfin e], awp_ret ⟨.inl rfl, retD rfl⟩⟩

theorem zadd_fn (x y : Int) {K : Nat} (hK : K ≤ 2 ^ 36) (hx : x.natAbs < 2 ^ K) (hy : y.natAbs < 2 ^ K) : Fn Try.prog 169 [.agg (zc x), .agg (zc y)] [] (.agg (zc (x + y))) [] := by
  refine fn0 (nt := 47) (res := [.cell 4 31]) Try.func169 rfl (by decide) rfl rfl rfl rfl ?_
  intro C hP hnt hl
  have lx := Nat.le_trans (dblen hx) hK
  have ly := Nat.le_trans (dblen hy) hK
  have hx3 := sgn3 x
  have hy3 := sgn3 y
  have hw : IntKind.i64.wrap (x.sign * y.sign) = x.sign * y.sign := by
    rcases hx3 with ⟨a1, a2⟩ | ⟨a1, a2⟩ | ⟨a1, a2⟩ <;> rcases hy3 with ⟨b1, b2⟩ | ⟨b1, b2⟩ | ⟨b1, b2⟩ <;> rw [a2, b2] <;> rfl
  have hw2 : IntKind.i64.wrap (x.sign + y.sign) = x.sign + y.sign := by
    rcases hx3 with ⟨a1, a2⟩ | ⟨a1, a2⟩ | ⟨a1, a2⟩ <;> rcases hy3 with ⟨b1, b2⟩ | ⟨b1, b2⟩ | ⟨b1, b2⟩ <;> rw [a2, b2] <;> rfl
  have hle : ∀ n : Nat, n ≤ x.natAbs + y.natAbs → (db 2 n).length ≤ 2 ^ 40 := fun n hn => by
    have : n < 2 ^ (K + 1) := by rw [Nat.pow_succ]; omega
    have := dblen this
    omega
  refine awp_sx prog_ok hP hnt [] [] [] [2, 3, 4] (by kernel_rfl) (G := fun K => K (St.mk [(2, V.ptr 0 0), (3, V.ptr 1 0), (4, V.ptr 2 0)] [(0, some (Blk.mk [D.int IntKind.i64 x.sign, ib (db 2 x.natAbs)] true)), (1, some (Blk.mk [D.int IntKind.i64 y.sign, ib (db 2 y.natAbs)] true)), (2, some (Blk.mk [D.int IntKind.i64 (0 : Int), D.lst 0 []] true))] 3)) (fun K => by kernel_rfl) ?_
  refine awp_seq_k fun K hK => ?_
  refine awp_sx prog_ok hP hnt [(9, .int .i64 (x.sign * y.sign))] [] [] [2, 3, 4, 10] (by kernel_rfl) (G := fun K => IntKind.i64.wrap (x.sign * y.sign) = x.sign * y.sign ∧ K (St.mk [(2, V.ptr 0 0), (3, V.ptr 1 0), (4, V.ptr 2 0), (10, V.d (D.bool (decide (x.sign * y.sign ≥ (0 : Int)))))] [(0, some (Blk.mk [D.int IntKind.i64 x.sign, ib (db 2 x.natAbs)] true)), (1, some (Blk.mk [D.int IntKind.i64 y.sign, ib (db 2 y.natAbs)] true)), (2, some (Blk.mk [D.int IntKind.i64 (0 : Int), D.lst 0 []] true))] 9)) (fun K => by kernel_rfl) ?_
  refine ⟨hw, awp_cond rfl (fun e => ?_) (fun e => awp_skip (hK _ ?_))⟩
  · simp at e
    have h1 := badd_fn (db 2 x.natAbs) (db 2 y.natAbs) (db2 _) (db2 _) (by omega) (by omega)
    rw [vbdb, vbdb] at h1
    have h2 := zmake_fn (decide (x.sign + y.sign < 0)) (db 2 (x.natAbs + y.natAbs)) (db2 _) (hle _ (Nat.le_refl _))
    rw [vbdb] at h2
    have e2 : sgn (decide (x.sign + y.sign < 0)) (x.natAbs + y.natAbs) = x + y := by
      unfold sgn
      rcases hx3 with ⟨a1, a2⟩ | ⟨a1, a2⟩ | ⟨a1, a2⟩ <;> rcases hy3 with ⟨b1, b2⟩ | ⟨b1, b2⟩ | ⟨b1, b2⟩ <;> rw [a2, b2] at e ⊢ <;> first | (exfalso; omega) | (simp; omega)
    rw [e2] at h2
    refine awp_sx prog_ok hP hnt [(15, .int .i64 (x.sign + y.sign))] [.val (.d (ib (db 2 (x.natAbs + y.natAbs)))), .val (.agg (zc (x + y)))] [] [4] (by kernel_rfl) (G := fun K => IntKind.i64.wrap (x.sign + y.sign) = x.sign + y.sign ∧ Fn Try.prog 217 [V.d (ib (db 2 x.natAbs)), V.d (ib (db 2 y.natAbs))] [] (V.d (ib (db 2 (x.natAbs + y.natAbs)))) [] ∧ Fn Try.prog 59 [V.d (D.bool (decide (x.sign + y.sign < (0 : Int)))), V.d (ib (db 2 (x.natAbs + y.natAbs)))] [] (V.agg [D.int IntKind.i64 (x + y).sign, ib (db 2 (x + y).natAbs)]) [] ∧ 0 + (zc (x + y)).length ≤ [D.int IntKind.i64 (0 : Int), D.lst 0 []].length ∧ K (St.mk [(4, V.ptr 2 0)] [(0, some (Blk.mk [D.int IntKind.i64 x.sign, ib (db 2 x.natAbs)] true)), (1, some (Blk.mk [D.int IntKind.i64 y.sign, ib (db 2 y.natAbs)] true)), (2, some (Blk.mk [D.int IntKind.i64 (x + y).sign, ib (db 2 (x + y).natAbs)] true))] 22)) (fun K => by kernel_rfl) ?_
    exact ⟨hw2, h1, h2, by simp [zc_len], awp_ret ⟨.inl rfl, retC (l := true) rfl rfl rfl rfl⟩⟩
  · simp at e
    have h1 := bcmp_fn (db 2 x.natAbs) (db 2 y.natAbs) (db2 _) (db2 _) (by omega) (by omega)
    rw [vbdb, vbdb] at h1
    refine awp_seq_k fun K2 hK2 => ?_
    refine awp_sx prog_ok hP hnt [] [.val (.d (.int .i64 (cmpI x.natAbs y.natAbs)))] [] [2, 3, 4, 28] (by kernel_rfl) (G := fun K => Fn Try.prog 167 [V.d (ib (db 2 x.natAbs)), V.d (ib (db 2 y.natAbs))] [] (V.d (D.int IntKind.i64 (cmpI x.natAbs y.natAbs))) [] ∧ K (St.mk [(2, V.ptr 0 0), (3, V.ptr 1 0), (4, V.ptr 2 0), (28, V.d (D.bool (decide (cmpI x.natAbs y.natAbs ≥ (0 : Int)))))] [(0, some (Blk.mk [D.int IntKind.i64 x.sign, ib (db 2 x.natAbs)] true)), (1, some (Blk.mk [D.int IntKind.i64 y.sign, ib (db 2 y.natAbs)] true)), (2, some (Blk.mk [D.int IntKind.i64 (0 : Int), D.lst 0 []] true))] 15)) (fun K => by kernel_rfl) ?_
    refine ⟨h1, awp_cond rfl (fun e3 => ?_) (fun e3 => awp_skip (hK2 _ ?_))⟩
    · have hge : y.natAbs ≤ x.natAbs := by
        simp at e3
        unfold cmpI at e3
        split at e3
        · omega
        · split at e3 <;> omega
      have h3 := bsub_fn (db 2 x.natAbs) (db 2 y.natAbs) (db2 _) (db2 _) (by omega) (by rw [vbdb, vbdb]; exact hge)
      rw [vbdb, vbdb] at h3
      have h2 := zmake_fn (decide (x.sign < 0)) (db 2 (x.natAbs - y.natAbs)) (db2 _) (hle _ (by omega))
      rw [vbdb] at h2
      have e2 : sgn (decide (x.sign < 0)) (x.natAbs - y.natAbs) = x + y := by
        unfold sgn
        rcases hx3 with ⟨a1, a2⟩ | ⟨a1, a2⟩ | ⟨a1, a2⟩ <;> rcases hy3 with ⟨b1, b2⟩ | ⟨b1, b2⟩ | ⟨b1, b2⟩ <;> rw [a2, b2] at e <;> rw [a2] <;> first | (exfalso; omega) | (simp; omega)
      rw [e2] at h2
      refine awp_sx prog_ok hP hnt [] [.val (.d (ib (db 2 (x.natAbs - y.natAbs)))), .val (.agg (zc (x + y)))] [] [4] (by kernel_rfl) (G := fun K => Fn Try.prog 218 [V.d (ib (db 2 x.natAbs)), V.d (ib (db 2 y.natAbs))] [] (V.d (ib (db 2 (x.natAbs - y.natAbs)))) [] ∧ Fn Try.prog 59 [V.d (D.bool (decide (x.sign < (0 : Int)))), V.d (ib (db 2 (x.natAbs - y.natAbs)))] [] (V.agg [D.int IntKind.i64 (x + y).sign, ib (db 2 (x + y).natAbs)]) [] ∧ 0 + (zc (x + y)).length ≤ [D.int IntKind.i64 (0 : Int), D.lst 0 []].length ∧ K (St.mk [(4, V.ptr 2 0)] [(0, some (Blk.mk [D.int IntKind.i64 x.sign, ib (db 2 x.natAbs)] true)), (1, some (Blk.mk [D.int IntKind.i64 y.sign, ib (db 2 y.natAbs)] true)), (2, some (Blk.mk [D.int IntKind.i64 (x + y).sign, ib (db 2 (x + y).natAbs)] true))] 25)) (fun K => by kernel_rfl) ?_
      exact ⟨h3, h2, by simp [zc_len], awp_ret ⟨.inl rfl, retC (l := true) rfl rfl rfl rfl⟩⟩
    · have hge : x.natAbs ≤ y.natAbs := by
        simp at e3
        unfold cmpI at e3
        split at e3
        · omega
        · split at e3 <;> omega
      have h3 := bsub_fn (db 2 y.natAbs) (db 2 x.natAbs) (db2 _) (db2 _) (by omega) (by rw [vbdb, vbdb]; exact hge)
      rw [vbdb, vbdb] at h3
      have h2 := zmake_fn (decide (y.sign < 0)) (db 2 (y.natAbs - x.natAbs)) (db2 _) (hle _ (by omega))
      rw [vbdb] at h2
      have e2 : sgn (decide (y.sign < 0)) (y.natAbs - x.natAbs) = x + y := by
        unfold sgn
        rcases hx3 with ⟨a1, a2⟩ | ⟨a1, a2⟩ | ⟨a1, a2⟩ <;> rcases hy3 with ⟨b1, b2⟩ | ⟨b1, b2⟩ | ⟨b1, b2⟩ <;> rw [a2, b2] at e <;> rw [b2] <;> first | (exfalso; omega) | (simp; omega)
      rw [e2] at h2
      refine awp_sx prog_ok hP hnt [] [.val (.d (ib (db 2 (y.natAbs - x.natAbs)))), .val (.agg (zc (x + y)))] [] [4] (by kernel_rfl) (G := fun K => Fn Try.prog 218 [V.d (ib (db 2 y.natAbs)), V.d (ib (db 2 x.natAbs))] [] (V.d (ib (db 2 (y.natAbs - x.natAbs)))) [] ∧ Fn Try.prog 59 [V.d (D.bool (decide (y.sign < (0 : Int)))), V.d (ib (db 2 (y.natAbs - x.natAbs)))] [] (V.agg [D.int IntKind.i64 (x + y).sign, ib (db 2 (x + y).natAbs)]) [] ∧ 0 + (zc (x + y)).length ≤ [D.int IntKind.i64 (0 : Int), D.lst 0 []].length ∧ K (St.mk [(4, V.ptr 2 0)] [(0, some (Blk.mk [D.int IntKind.i64 x.sign, ib (db 2 x.natAbs)] true)), (1, some (Blk.mk [D.int IntKind.i64 y.sign, ib (db 2 y.natAbs)] true)), (2, some (Blk.mk [D.int IntKind.i64 (x + y).sign, ib (db 2 (x + y).natAbs)] true))] 25)) (fun K => by kernel_rfl) ?_
      exact ⟨h3, h2, by simp [zc_len], awp_ret ⟨.inl rfl, retC (l := true) rfl rfl rfl rfl⟩⟩

theorem zsmall_fn (z : Int) (hz : z.natAbs ≤ 2 ^ 62) : Fn Try.prog 41 [.d (.int .i64 z)] [] (.agg (zc z)) [] := by
  refine fn0 (nt := 22) (res := [.cell 2 31]) Try.func41 rfl (by decide) rfl rfl rfl rfl ?_
  intro C hP hnt hl
  obtain ⟨N, hN⟩ : ∃ N, N = z.natAbs := ⟨_, rfl⟩
  have hzs : sgn (decide (z < 0)) N = z := by unfold sgn; by_cases h : z < 0 <;> simp [h] <;> omega
  refine awp_sx prog_ok hP hnt [] [] [] [0, 2] (by kernel_rfl) (G := fun K => K (St.mk [(0, V.d (D.int IntKind.i64 z)), (2, V.ptr 0 0)] [(0, some (Blk.mk [D.int IntKind.i64 (0 : Int), D.lst 0 []] true))] 1)) (fun K => by kernel_rfl) ?_
  refine awp_sx prog_ok hP hnt [] [] [] [0, 2, 3] (by kernel_rfl) (G := fun K => K (St.mk [(0, V.d (D.int IntKind.i64 z)), (2, V.ptr 0 0), (3, V.d (D.bool (decide (z < (0 : Int)))))] [(0, some (Blk.mk [D.int IntKind.i64 (0 : Int), D.lst 0 []] true))] 4)) (fun K => by kernel_rfl) ?_
  refine awp_cut (ι := Unit) (fun _ => ⟨[(0, .d (.int .i64 N)), (2, .ptr 0 0), (3, .d (.bool (decide (z < 0))))], [(0, some ⟨[.int .i64 0, .lst 0 []], true⟩)], 1⟩) (fun _ => True) ?_ ?_
  · refine awp_sx prog_ok hP hnt [] [] [] [0, 2, 3, 7] (by kernel_rfl) (G := fun K => K (St.mk [(0, V.d (D.int IntKind.i64 z)), (2, V.ptr 0 0), (3, V.d (D.bool (decide (z < (0 : Int))))), (7, V.d (D.bool (decide (z < (0 : Int)))))] [(0, some (Blk.mk [D.int IntKind.i64 (0 : Int), D.lst 0 []] true))] 5)) (fun K => by kernel_rfl) ?_
    refine awp_cond rfl (fun e => ?_) (fun e => awp_skip ⟨(), [(0, 0)], trivial, ?_⟩)
    · simp at e
      refine awp_x prog_ok hP hnt [(9, .int .i64 N)] [] [] [0, 2, 3] (by kernel_rfl) (G := fun K => IntKind.i64.wrap ((0 : Int) - z) = (↑N : Int) ∧ K (St.mk [(0, V.d (D.int IntKind.i64 (↑N : Int))), (2, V.ptr 0 0), (3, V.d (D.bool (decide (z < (0 : Int)))))] [(0, some (Blk.mk [D.int IntKind.i64 (0 : Int), D.lst 0 []] true))] 8)) (fun K => by kernel_rfl) ?_
      refine ⟨by rw [w64] <;> omega, (), [(0, 0)], trivial, ?_⟩
      (constructor <;> simp [hl, envOk, memOk, conv, St.get, St.blk])
    · simp at e
      have : z = N := by omega
      (constructor <;> simp [hl, envOk, memOk, conv, St.get, St.blk, this])
  intro _ _
  refine awp_sx prog_ok hP hnt [] [] [] [0, 2, 3, 4] (by kernel_rfl) (G := fun K => K (St.mk [(0, V.d (D.int IntKind.i64 (↑N : Int))), (2, V.ptr 0 0), (3, V.d (D.bool (decide (z < (0 : Int))))), (4, V.nil)] [(0, some (Blk.mk [D.int IntKind.i64 (0 : Int), D.lst 0 []] true))] 2)) (fun K => by kernel_rfl) ?_
  refine awp_cut (ι := List Nat) (fun o => ⟨[(2, .ptr 0 0), (3, .d (.bool (decide (z < 0)))), (4, .own 1 0 o.length 1)], [(0, some ⟨[.int .i64 0, .lst 0 []], true⟩), (1, some ⟨ibs o, true⟩)], 2⟩) (fun o => Db 2 o ∧ o.length ≤ 2 ^ 40 ∧ vb 2 o = N) ?_ ?_
  · refine awp_block ?_
    refine awp_loop (ι := List Nat × Nat) (fun p => ⟨[(0, .d (.int .i64 p.2)), (2, .ptr 0 0), (3, .d (.bool (decide (z < 0)))), (4, .own 1 0 p.1.length 1)], [(0, some ⟨[.int .i64 0, .lst 0 []], true⟩), (1, some ⟨ibs p.1, true⟩)], 2⟩)
      (fun p => Db 2 p.1 ∧ p.2 ≤ N ∧ p.1.length ≤ 63 ∧ vb 2 p.1 + 2 ^ p.1.length * p.2 = N) (fun p => p.2) ([], N) [(0, 0)] ⟨(fun d hd => by cases hd), by simp, by simp, by simp [vb]⟩ ?_ ?_
    · (constructor <;> simp [hl, envOk, memOk, conv, St.get, St.blk, ibs, fm])
    intro ⟨o, n⟩ ⟨ho, hn, hlen, hv⟩
    simp only at ho hn hlen hv ⊢
    refine awp_seq_k fun K hK => ?_
    refine awp_sx prog_ok hP hnt [] [] [] [0, 2, 3, 4, 11] (by kernel_rfl) (G := fun K => K (St.mk [(0, V.d (D.int IntKind.i64 (↑n : Int))), (2, V.ptr 0 0), (3, V.d (D.bool (decide (z < (0 : Int))))), (4, V.own 1 0 o.length 1), (11, V.d (D.bool (decide ((↑n : Int) > (0 : Int)))))] [(0, some (Blk.mk [D.int IntKind.i64 (0 : Int), D.lst 0 []] true)), (1, some (Blk.mk (ibs o) true))] 4)) (fun K => by kernel_rfl) ?_
    refine awp_cond rfl (fun e => awp_skip (hK _ ?_)) (fun e => awp_exit ⟨o, [(0, 0), (1, 1)], ?_, ?_⟩)
    · simp at e
      refine awp_block ?_
      refine awp_sx prog_ok hP hnt [(14, .int .i64 (n % 2 : Nat))] [] [] [0, 2, 3, 4] (by kernel_rfl) (G := fun K => (2 : Int) ≠ (0 : Int) ∧ (↑n : Int).tmod (2 : Int) = (↑(n % 2) : Int) ∧ 1 = 1 ∧ ((ibs o).length = o.length * 1 ∧ (o.length + 1) * 8 ≤ 2 ^ 47) ∧ K (St.mk [(0, V.d (D.int IntKind.i64 (↑n : Int))), (2, V.ptr 0 0), (3, V.d (D.bool (decide (z < (0 : Int))))), (4, V.own 8 0 (o.length + 1) 1)] [(0, some (Blk.mk [D.int IntKind.i64 (0 : Int), D.lst 0 []] true)), (1, none), (8, some (Blk.mk (ibs o ++ setCells (zeros 1 (TI.mk (Kind.int IntKind.i64) 1 8 [D.int IntKind.i64 (0 : Int)]).zero) 0 [D.int IntKind.i64 (↑(n % 2) : Int)]) true))] 10)) (fun K => by kernel_rfl) ?_
      have happ := ibs_app o (n % 2)
      have hl62 : o.length ≤ 62 := by
        rcases Nat.lt_or_ge 62 o.length with h | h
        · have h1 : 2 ^ 63 ≤ 2 ^ o.length := Nat.pow_le_pow_right (by omega) h
          have h2 : 2 ^ o.length * 1 ≤ 2 ^ o.length * n := Nat.mul_le_mul_left _ e
          omega
        · exact h
      refine ⟨by decide, tmodN n 2, rfl, ⟨by simp, by omega⟩, ?_⟩
      refine awp_x prog_ok hP hnt [(18, .int .i64 (n / 2 : Nat))] [] [] [0, 2, 3, 4] (by kernel_rfl) (G := fun K => (2 : Int) ≠ (0 : Int) ∧ IntKind.i64.wrap ((↑n : Int).tdiv (2 : Int)) = (↑(n / 2) : Int) ∧ K (St.mk [(0, V.d (D.int IntKind.i64 (↑(n / 2) : Int))), (2, V.ptr 0 0), (3, V.d (D.bool (decide (z < (0 : Int))))), (4, V.own 8 0 (o.length + 1) 1)] [(0, some (Blk.mk [D.int IntKind.i64 (0 : Int), D.lst 0 []] true)), (1, none), (8, some (Blk.mk (ibs o ++ setCells (zeros 1 (TI.mk (Kind.int IntKind.i64) 1 8 [D.int IntKind.i64 (0 : Int)]).zero) 0 [D.int IntKind.i64 (↑(n % 2) : Int)]) true))] 13)) (fun K => by kernel_rfl) ?_
      refine ⟨by decide, tdivN n 2 (by omega), (o ++ [n % 2], n / 2), [(0, 0), (1, 8)], ⟨⟨db_snoc ho (by omega), by simp only; omega, by simp; omega, ?_⟩, by simp only; omega⟩, ?_⟩
      · simp only [List.length_append, List.length_cons, List.length_nil, vb_snoc, Nat.zero_add, Nat.pow_succ]
        have e5 : 2 ^ o.length * n = 2 ^ o.length * (2 * (n / 2) + n % 2) := by rw [Nat.div_add_mod]
        generalize n / 2 = d at *
        generalize n % 2 = s at *
        generalize 2 ^ o.length = B at *
        grind
      · (constructor <;> simp [hl, envOk, memOk, conv, St.get, St.blk, ← happ, setCells, zeros])
    · simp at e
      subst e
      exact ⟨ho, by omega, by simpa using hv⟩
    · (constructor <;> simp [hl, envOk, memOk, conv, St.get, St.blk])
  intro o ⟨ho, hol, hov⟩
  have h1 := zmake_fn (decide (z < 0)) o ho hol
  rw [hov, hzs] at h1
  refine awp_sx prog_ok hP hnt [] [.val (.agg (zc z))] [] [2] (by kernel_rfl) (G := fun K => Fn Try.prog 59 [V.d (D.bool (decide (z < (0 : Int)))), V.d (D.lst o.length (List.take (o.length * 1) (List.drop 0 (ibs o))))] [] (V.agg [D.int IntKind.i64 z.sign, ib (db 2 z.natAbs)]) [] ∧ 0 + (zc z).length ≤ [D.int IntKind.i64 (0 : Int), D.lst 0 []].length ∧ K (St.mk [(2, V.ptr 0 0)] [(0, some (Blk.mk [D.int IntKind.i64 z.sign, ib (db 2 z.natAbs)] true)), (1, some (Blk.mk (ibs o) false))] 6)) (fun K => by kernel_rfl) ?_
  refine ⟨?_, by simp [zc_len], awp_ret ⟨.inl rfl, retC (l := true) rfl rfl rfl rfl⟩⟩
  have := own_fm i1_len (l := o) rfl
  rw [this]
  exact h1
end Go.Abs

set_option linter.unusedVariables false
set_option linter.unusedSimpArgs false
namespace Go.Abs
open Go Go.Proofs
set_option maxRecDepth 100000

theorem u32s_app (l : List Nat) (s : Nat) : u32s l ++ [.int .u32 s] = u32s (l ++ [s]) := by simp [u32s]
/-- digits with the same value and no more of them -/
theorem dig_same {o : List Nat} (h : Dg o) (hl : o.length ≤ (dig (val o)).length) : o = dig (val o) := by
  refine can_dig h fun e => ?_
  have hne : o ≠ [] := fun e0 => by subst e0; simp at e
  obtain ⟨p, x, rfl⟩ : ∃ p x, o = p ++ [x] := ⟨o.dropLast, o.getLast hne, (List.dropLast_concat_getLast hne).symm⟩
  rw [List.getLast?_concat] at e
  have hx : x = 0 := by simpa using e
  subst hx
  have h1 : val (p ++ [0]) = val p := by rw [val_append]; simp [val]
  rw [h1] at hl
  have h2 := dig_le (l := p) fun d hd => h d (by simp [hd])
  simp at hl
  omega

theorem bto_fn (l : List Nat) (hl1 : Db 2 l) (hn : l.length ≤ 2 ^ 40) : Fn Try.prog 219 [.d (ib l)] [] (.d (du (dig (vb 2 l)))) [] := by
  refine fn0 (nt := 36) (res := [.tmp 2]) Try.func219 rfl (by decide) rfl rfl rfl rfl ?_
  intro C hP hnt hl
  have ht := btrim_fn l hl1 hn
  obtain ⟨N, hN⟩ : ∃ N, N = vb 2 l := ⟨_, rfl⟩
  rw [← hN] at ht ⊢
  have hN2 : N < 2 ^ l.length := hN ▸ vb_lt (by omega) hl1
  obtain ⟨B, hB⟩ : ∃ B, B = db 2 N := ⟨_, rfl⟩
  rw [← hB] at ht
  have hBd : Db 2 B := hB ▸ db2 N
  have hBv : vb 2 B = N := by rw [hB, vbdb]
  have hBl : B.length ≤ 2 ^ 40 := by rw [hB]; have := dblen hN2; omega
  have hBt : B.length ≠ 0 → 2 ^ (B.length - 1) ≤ N := fun h => by rw [hB] at h ⊢; exact db_ge (by omega) (by omega)
  refine awp_sx prog_ok hP hnt [] [] [] [0] (by kernel_rfl) (G := fun K => K (St.mk [(0, V.d (ib l))] [] 1)) (fun K => by kernel_rfl) ?_
  refine awp_sx prog_ok hP hnt [] [.val (.d (ib B))] [] [0] (by kernel_rfl) (G := fun K => Fn Try.prog 166 [V.d (ib l)] [] (V.d (ib B)) [] ∧ K (St.mk [(0, V.d (ib B))] [] 4)) (fun K => by kernel_rfl) ?_
  refine ⟨ht, ?_⟩
  refine awp_sx prog_ok hP hnt [] [] [] [0, 3] (by kernel_rfl) (G := fun K => K (St.mk [(0, V.d (ib B)), (3, V.nil)] [] 5)) (fun K => by kernel_rfl) ?_
  refine awp_cut (ι := List Nat) (fun o => ⟨[(3, .own 0 0 o.length 1)], [(0, some ⟨u32s o, true⟩)], 1⟩) (fun o => o = dig N) ?_ ?_
  · refine awp_sx prog_ok hP hnt [] [] [] [0, 3, 4] (by kernel_rfl) (G := fun K => K (St.mk [(0, V.d (ib B)), (3, V.nil), (4, V.d (D.int IntKind.i64 (0 : Int)))] [] 6)) (fun K => by kernel_rfl) ?_
    refine awp_block ?_
    refine awp_loop (ι := Nat × List Nat) (fun p => ⟨[(0, .d (ib B)), (3, .own 0 0 p.2.length 1), (4, .d (.int .i64 p.1))], [(0, some ⟨u32s p.2, true⟩)], 1⟩)
      (fun p => p.1 ≤ B.length ∧ p.2.length = (p.1 + 31) / 32 ∧ Dg p.2 ∧ val p.2 = vb 2 (B.take p.1)) (fun p => B.length - p.1) (0, []) [] ⟨by simp, by simp, (fun d hd => by cases hd), by simp [vb, val]⟩ ?_ ?_
    · (constructor <;> simp [hl, envOk, memOk, conv, St.get, St.blk, u32s])
    intro ⟨i, o⟩ ⟨hi, hol, hod, hov⟩
    simp only at hi hol hod hov ⊢
    refine awp_seq_k fun K hK => ?_
    refine awp_sx prog_ok hP hnt [] [] [] [0, 3, 4, 10] (by kernel_rfl) (G := fun K => K (St.mk [(0, V.d (ib B)), (3, V.own 0 0 o.length 1), (4, V.d (D.int IntKind.i64 (↑i : Int))), (10, V.d (D.bool (decide ((↑i : Int) < (↑B.length : Int)))))] [(0, some (Blk.mk (u32s o) true))] 5)) (fun K => by kernel_rfl) ?_
    refine awp_cond rfl (fun e => awp_skip (hK _ ?_)) (fun e => awp_exit ⟨o, [(0, 0)], ?_, ?_⟩)
    · simp at e
      refine awp_seq_k fun K2 hK2 => ?_
      refine awp_block ?_
      refine awp_cut (ι := List Nat) (fun o => ⟨[(0, .d (ib B)), (3, .own 0 0 o.length 1), (4, .d (.int .i64 i))], [(0, some ⟨u32s o, true⟩)], 1⟩)
        (fun o => o.length = i / 32 + 1 ∧ Dg o ∧ val o = vb 2 (B.take i)) ?_ ?_
      · refine awp_sx prog_ok hP hnt [(14, .int .i64 (i % 32 : Nat))] [] [] [0, 3, 4, 15] (by kernel_rfl) (G := fun K => (32 : Int) ≠ (0 : Int) ∧ (↑i : Int).tmod (32 : Int) = (↑(i % 32) : Int) ∧ K (St.mk [(0, V.d (ib B)), (3, V.own 0 0 o.length 1), (4, V.d (D.int IntKind.i64 (↑i : Int))), (15, V.d (D.bool ((↑(i % 32) : Int) == (0 : Int))))] [(0, some (Blk.mk (u32s o) true))] 8)) (fun K => by kernel_rfl) ?_
        refine ⟨by decide, tmodN i 32, awp_cond rfl (fun e2 => ?_) (fun e2 => awp_skip ⟨o, [(0, 0)], ?_, ?_⟩)⟩
        · simp at e2
          refine awp_x prog_ok hP hnt [] [] [] [0, 3, 4] (by kernel_rfl) (G := fun K => 1 = 1 ∧ ((u32s o).length = o.length * 1 ∧ (o.length + 1) * 4 ≤ 2 ^ 47) ∧ K (St.mk [(0, V.d (ib B)), (3, V.own 10 0 (o.length + 1) 1), (4, V.d (D.int IntKind.i64 (↑i : Int)))] [(0, none), (10, some (Blk.mk (u32s o ++ setCells (zeros 1 (TI.mk (Kind.int IntKind.u32) 1 4 [D.int IntKind.u32 (0 : Int)]).zero) 0 [D.int IntKind.u32 (0 : Int)]) true))] 12)) (fun K => by kernel_rfl) ?_
          have happ := u32s_app o 0
          refine ⟨rfl, ⟨by simp, by omega⟩, o ++ [0], [(0, 10)], ⟨by simp [hol]; omega, ?_, by rw [val_append, ← hov]; simp [val]⟩, ?_⟩
          · intro d hd
            rcases List.mem_append.1 hd with h | h
            · exact hod d h
            · simp at h; omega
          · (constructor <;> simp [hl, envOk, memOk, conv, St.get, St.blk, ← happ, setCells, zeros])
        · simp at e2
          exact ⟨by omega, hod, hov⟩
        · (constructor <;> simp [hl, envOk, memOk, conv, St.get, St.blk])
      intro o ⟨hol, hod, hov⟩
      obtain ⟨x, hx⟩ := get_ex (l := B) (i := i) e
      have hx2 : x < 2 := db_get hBd hx
      obtain ⟨y, hy⟩ := get_ex (l := o) (i := i / 32) (by omega)
      have hyd : o.getD (i / 32) 0 = y := by rw [List.getD_eq_getElem?_getD, hy]; rfl
      have hlt : vb 2 (B.take i) < 2 ^ i := by
        have := vb_lt (b := 2) (by omega) (db_take hBd i)
        rwa [List.length_take, Nat.min_eq_left (by omega)] at this
      have hd := vb_digit_le (b := 4294967296) o (i / 32)
      rw [← val_vb, hov, hyd] at hd
      have hsp := pow_split 4294967296 32 i rfl
      have hdig : y < 2 ^ (i % 32) := by
        apply Nat.lt_of_mul_lt_mul_left (a := 4294967296 ^ (i / 32))
        rw [hsp]; omega
      have hput := vb_put (b := 4294967296) (l := o) (i := i / 32) (y + x * 2 ^ (i % 32)) (by omega)
      rw [hyd, ← val_vb, ← val_vb] at hput
      have h3 : 2 ^ (i % 32) ≤ 2 ^ 31 := Nat.pow_le_pow_right (by omega) (by omega)
      have h4 : x * 2 ^ (i % 32) ≤ 1 * 2 ^ (i % 32) := Nat.mul_le_mul_right _ (by omega)
      have hsc := setCells_u32 o (i / 32) (y + x * 2 ^ (i % 32))
      refine awp_x prog_ok hP hnt [(21, .int .i64 (i / 32 : Nat)), (28, .int .u32 x), (30, .int .i64 (i % 32 : Nat)), (31, .int .u64 (i % 32 : Nat)), (32, .int .u32 (x * 2 ^ (i % 32) : Nat)), (33, .int .u32 (y + x * 2 ^ (i % 32) : Nat))] [] [some [.int .u32 y], some [.int .i64 x]] [0, 3, 4] (by kernel_rfl) (G := fun K => (32 : Int) ≠ (0 : Int) ∧ IntKind.i64.wrap ((↑i : Int).tdiv (32 : Int)) = (↑(i / 32) : Int) ∧ ((0 : Int) ≤ (↑(i / 32) : Int) ∧ (↑(i / 32) : Int) < (↑o.length : Int)) ∧ (u32s o)[0 + (↑(i / 32) : Int).toNat * 1]? = some (D.int IntKind.u32 (↑y : Int)) ∧ ((0 : Int) ≤ (↑i : Int) ∧ (↑i : Int) < (↑B.length : Int) ∧ ((↑i : Int).toNat + 1) * 1 ≤ (ibs B).length) ∧ (List.drop ((↑i : Int).toNat * 1) (ibs B))[0]? = some (D.int IntKind.i64 (↑x : Int)) ∧ IntKind.u32.wrap (↑x : Int) = (↑x : Int) ∧ (32 : Int) ≠ (0 : Int) ∧ (↑i : Int).tmod (32 : Int) = (↑(i % 32) : Int) ∧ IntKind.u64.wrap (↑(i % 32) : Int) = (↑(i % 32) : Int) ∧ (0 : Int) ≤ (↑(i % 32) : Int) ∧ IntKind.u32.wrap ((↑x : Int) * (2 : Int) ^ min (↑(i % 32) : Int).toNat IntKind.u32.bits) = (↑(x * 2 ^ (i % 32)) : Int) ∧ IntKind.u32.wrap ((↑y : Int) + (↑(x * 2 ^ (i % 32)) : Int)) = (↑(y + x * 2 ^ (i % 32)) : Int) ∧ ((0 : Int) ≤ (↑(i / 32) : Int) ∧ (↑(i / 32) : Int) < (↑o.length : Int)) ∧ 0 + (↑(i / 32) : Int).toNat * 1 + [D.int IntKind.u32 (↑(y + x * 2 ^ (i % 32)) : Int)].length ≤ (u32s o).length ∧ K (St.mk [(0, V.d (ib B)), (3, V.own 0 0 o.length 1), (4, V.d (D.int IntKind.i64 (↑i : Int)))] [(0, some (Blk.mk (setCells (u32s o) (0 + (↑(i / 32) : Int).toNat * 1) [D.int IntKind.u32 (↑(y + x * 2 ^ (i % 32)) : Int)]) true))] 18)) (fun K => by kernel_rfl) ?_
      refine ⟨by decide, tdivN i 32 (by omega), ⟨by omega, by omega⟩, by rw [Int.toNat_natCast, Nat.zero_add, Nat.mul_one]; exact u32s_some hy, ⟨by omega, by omega, by simp; omega⟩, drop0 (ibs_some hx), u32nat (by omega), by decide, tmodN i 32, u64nat (by omega), by omega,
        by rw [shlN x (i % 32) (w := IntKind.u32.bits) (by show i % 32 ≤ 32; omega)]; exact u32nat (by omega), by rw [← Int.natCast_add]; exact u32nat (by omega), ⟨by omega, by omega⟩, by rw [Int.toNat_natCast, u32s_len, hol]; show 0 + i / 32 * 1 + 1 ≤ i / 32 + 1; omega, hK2 _ ?_⟩
      refine awp_x prog_ok hP hnt [(12, .int .i64 (i + 1 : Nat))] [] [] [0, 3, 4] (by kernel_rfl) (G := fun K => IntKind.i64.wrap ((↑i : Int) + (1 : Int)) = (↑(i + 1) : Int) ∧ K (St.mk [(0, V.d (ib B)), (3, V.own 0 0 o.length 1), (4, V.d (D.int IntKind.i64 (↑(i + 1) : Int)))] [(0, some (Blk.mk (setCells (u32s o) (0 + (↑(i / 32) : Int).toNat * 1) [D.int IntKind.u32 (↑(y + x * 2 ^ (i % 32)) : Int)]) true))] 21)) (fun K => by kernel_rfl) ?_
      refine ⟨by rw [w64] <;> omega, (i + 1, o.set (i / 32) (y + x * 2 ^ (i % 32))), [(0, 0)], ⟨⟨by simp only; omega, by simp [hol]; omega, dg_set hod (by omega), ?_⟩, by simp only; omega⟩, ?_⟩
      · simp only
        rw [vb_take_succ hx, ← hov, ← hsp]
        generalize 4294967296 ^ (i / 32) = A at *
        generalize 2 ^ (i % 32) = B at *
        grind
      · rw [Int.toNat_natCast, Nat.mul_one, Nat.zero_add, hsc]
        (constructor <;> simp [hl, envOk, memOk, conv, St.get, St.blk])
    · simp at e
      have : i = B.length := by omega
      subst this
      rw [List.take_length, hBv] at hov
      have := dig_same hod (by
        rw [hov, hol]
        by_cases h0 : B.length = 0
        · rw [h0]; simp
        · have h1 := hBt h0
          rcases Nat.lt_or_ge (dig N).length ((B.length + 31) / 32) with h2 | h2
          · have h3 := dig_lt_of_len (n := N) (k := (B.length + 31) / 32 - 1) (by omega)
            rw [show (4294967296 : Nat) = 2 ^ 32 by rfl, ← Nat.pow_mul] at h3
            have h4 : 2 ^ (32 * ((B.length + 31) / 32 - 1)) ≤ 2 ^ (B.length - 1) := Nat.pow_le_pow_right (by omega) (by omega)
            omega
          · exact h2)
      rw [hov] at this
      exact this
    · (constructor <;> simp [hl, envOk, memOk, conv, St.get, St.blk])
  intro o ho
  refine awp_sx prog_ok hP hnt [] [] [] [2] (by kernel_rfl) (G := fun K => K (St.mk [(2, V.own 0 0 o.length 1)] [(0, some (Blk.mk (u32s o) true))] 3)) (fun K => by kernel_rfl) ?_
  refine awp_ret ⟨.inl rfl, retOwn rfl rfl ?_⟩
  rw [Nat.mul_one, own_du rfl, ho]

theorem bis_fn (a l : List Nat) (hl1 : Db 2 l) (hn : l.length ≤ 2 ^ 40) (ha : a.length ≤ 2 ^ 40) : Fn Try.prog 170 [.d (du a), .d (ib l)] [] (.d (.bool (decide (a = dig (vb 2 l))))) [] := by
  refine fn0 (nt := 29) (res := [.tmp 4]) Try.func170 rfl (by decide) rfl rfl rfl rfl ?_
  intro C hP hnt hl
  have ht := bto_fn l hl1 hn
  obtain ⟨B, hB⟩ : ∃ B, B = dig (vb 2 l) := ⟨_, rfl⟩
  rw [← hB] at ht ⊢
  refine awp_sx prog_ok hP hnt [] [] [] [0, 1] (by kernel_rfl) (G := fun K => K (St.mk [(0, V.d (du a)), (1, V.d (ib l))] [] 1)) (fun K => by kernel_rfl) ?_
  refine awp_sx prog_ok hP hnt [] [.val (.d (du B))] [] [0, 5] (by kernel_rfl) (G := fun K => Fn Try.prog 219 [V.d (ib l)] [] (V.d (du B)) [] ∧ K (St.mk [(0, V.d (du a)), (5, V.d (du B))] [] 4)) (fun K => by kernel_rfl) ?_
  refine ⟨ht, ?_⟩
  refine awp_seq_k fun K hK => ?_
  refine awp_sx prog_ok hP hnt [] [] [] [0, 5, 13] (by kernel_rfl) (G := fun K => K (St.mk [(0, V.d (du a)), (5, V.d (du B)), (13, V.d (D.bool ((↑a.length : Int) != (↑B.length : Int))))] [] 9)) (fun K => by kernel_rfl) ?_
  refine awp_cond rfl (fun e => ?_) (fun e => awp_skip (hK _ ?_))
  · simp at e
    refine awp_sx prog_ok hP hnt [] [] [] [4] (by kernel_rfl) (G := fun K => K (St.mk [(4, V.d (D.bool false))] [] 10)) (fun K => by kernel_rfl) ?_
    refine awp_ret ⟨.inl rfl, retD ?_⟩
    rw [decide_eq_false (fun h => e (by rw [h]))]; rfl
  simp at e
  refine awp_cut (ι := Unit) (fun _ => ⟨[], [], 0⟩) (fun _ => a = B) ?_ ?_
  · refine awp_sx prog_ok hP hnt [] [] [] [0, 5, 6] (by kernel_rfl) (G := fun K => K (St.mk [(0, V.d (du a)), (5, V.d (du B)), (6, V.d (D.int IntKind.i64 (0 : Int)))] [] 10)) (fun K => by kernel_rfl) ?_
    refine awp_block ?_
    refine awp_loop (ι := Nat) (fun i => ⟨[(0, .d (du a)), (5, .d (du B)), (6, .d (.int .i64 i))], [], 0⟩)
      (fun i => i ≤ a.length ∧ ∀ k, k < i → a[k]? = B[k]?) (fun i => a.length - i) 0 [] ⟨by simp, by simp⟩ ?_ ?_
    · (constructor <;> simp [hl, envOk, memOk, conv, St.get, St.blk])
    intro i ⟨hi, hz⟩
    refine awp_seq_k fun K hK => ?_
    refine awp_sx prog_ok hP hnt [] [] [] [0, 5, 6, 17] (by kernel_rfl) (G := fun K => K (St.mk [(0, V.d (du a)), (5, V.d (du B)), (6, V.d (D.int IntKind.i64 (↑i : Int))), (17, V.d (D.bool (decide ((↑i : Int) < (↑a.length : Int)))))] [] 4)) (fun K => by kernel_rfl) ?_
    refine awp_cond rfl (fun e => awp_skip (hK _ ?_)) (fun e => awp_exit ⟨(), [], ?_, ?_⟩)
    · simp at e
      obtain ⟨x, hx⟩ := get_ex (l := a) (i := i) e
      obtain ⟨y, hy⟩ := get_ex (l := B) (i := i) (by omega)
      refine awp_seq_k fun K2 hK2 => ?_
      refine awp_block ?_
      refine awp_sx prog_ok hP hnt [] [] [some [.int .u32 x], some [.int .u32 y]] [0, 5, 6, 28] (by kernel_rfl) (G := fun K => ((0 : Int) ≤ (↑i : Int) ∧ (↑i : Int) < (↑a.length : Int) ∧ ((↑i : Int).toNat + 1) * 1 ≤ (u32s a).length) ∧ (List.drop ((↑i : Int).toNat * 1) (u32s a))[0]? = some (D.int IntKind.u32 (↑x : Int)) ∧ ((0 : Int) ≤ (↑i : Int) ∧ (↑i : Int) < (↑B.length : Int) ∧ ((↑i : Int).toNat + 1) * 1 ≤ (u32s B).length) ∧ (List.drop ((↑i : Int).toNat * 1) (u32s B))[0]? = some (D.int IntKind.u32 (↑y : Int)) ∧ K (St.mk [(0, V.d (du a)), (5, V.d (du B)), (6, V.d (D.int IntKind.i64 (↑i : Int))), (28, V.d (D.bool ((↑x : Int) != (↑y : Int))))] [] 13)) (fun K => by kernel_rfl) ?_
      refine ⟨⟨by omega, by omega, by simp; omega⟩, drop0 (u32s_some hx), ⟨by omega, by omega, by simp; omega⟩, drop0 (u32s_some hy), awp_cond rfl (fun e2 => ?_) (fun e2 => awp_skip (hK2 _ ?_))⟩
      · simp at e2
        refine awp_sx prog_ok hP hnt [] [] [] [4] (by kernel_rfl) (G := fun K => K (St.mk [(4, V.d (D.bool false))] [] 14)) (fun K => by kernel_rfl) ?_
        refine awp_ret ⟨.inl rfl, retD ?_⟩
        rw [decide_eq_false (fun h => e2 (by rw [h, hy] at hx; cases hx; rfl))]; rfl
      · simp at e2
        have : x = y := by omega
        refine awp_x prog_ok hP hnt [(19, .int .i64 (i + 1 : Nat))] [] [] [0, 5, 6] (by kernel_rfl) (G := fun K => IntKind.i64.wrap ((↑i : Int) + (1 : Int)) = (↑(i + 1) : Int) ∧ K (St.mk [(0, V.d (du a)), (5, V.d (du B)), (6, V.d (D.int IntKind.i64 (↑(i + 1) : Int)))] [] 16)) (fun K => by kernel_rfl) ?_
        refine ⟨by rw [w64] <;> omega, i + 1, [], ⟨⟨by omega, fun k hk => ?_⟩, by omega⟩, ?_⟩
        · by_cases h : k = i
          · subst h; rw [hx, hy, this]
          · exact hz k (by omega)
        · (constructor <;> simp [hl, envOk, memOk, conv, St.get, St.blk])
    · simp at e
      apply List.ext_getElem?
      intro k
      by_cases hk : k < a.length
      · exact hz k (by omega)
      · rw [List.getElem?_eq_none (by omega), List.getElem?_eq_none (by omega)]
    · (constructor <;> simp [hl, envOk, memOk, conv, St.get, St.blk])
  intro _ h
  refine awp_sx prog_ok hP hnt [] [] [] [4] (by kernel_rfl) (G := fun K => K (St.mk [(4, V.d (D.bool true))] [] 1)) (fun K => by kernel_rfl) ?_
  refine awp_ret ⟨.inl rfl, retD ?_⟩
  rw [decide_eq_true h]; rfl

theorem zis_fn (s : Bool) (a : List Nat) (z : Int) (ha : a.length ≤ 2 ^ 40) {K : Nat} (hK : K ≤ 2 ^ 40) (hz : z.natAbs < 2 ^ K) : Fn Try.prog 69 [.d (.bool s), .d (du a), .agg (zc z)] [] (.d (.bool (decide ((s, a) = riz z)))) [] := by
  refine fn0 (nt := 18) (res := [.tmp 6]) Try.func69 rfl (by decide) rfl rfl rfl rfl ?_
  intro C hP hnt hl
  have h1 := bis_fn a (db 2 z.natAbs) (db2 _) (Nat.le_trans (dblen hz) hK) ha
  rw [vbdb] at h1
  have hs : decide (z.sign < 0) = decide (z < 0) := by rcases sgn3 z with ⟨a1, a2⟩ | ⟨a1, a2⟩ | ⟨a1, a2⟩ <;> rw [a2] <;> simp <;> omega
  refine awp_sx prog_ok hP hnt [] [] [] [0, 1, 5] (by kernel_rfl) (G := fun K => K (St.mk [(0, V.d (D.bool s)), (1, V.d (du a)), (5, V.ptr 0 0)] [(0, some (Blk.mk [D.int IntKind.i64 z.sign, ib (db 2 z.natAbs)] true))] 2)) (fun K => by kernel_rfl) ?_
  by_cases e : s = decide (z < 0)
  · refine awp_sx prog_ok hP hnt [(11, .bool true)] [.val (.d (.bool (decide (a = dig z.natAbs))))] [] [6] (by kernel_rfl) (G := fun K => (s == decide (z.sign < (0 : Int))) = true ∧ Fn Try.prog 170 [V.d (du a), V.d (ib (db 2 z.natAbs))] [] (V.d (D.bool (decide (a = dig z.natAbs)))) [] ∧ K (St.mk [(6, V.d (D.bool (decide (a = dig z.natAbs))))] [(0, some (Blk.mk [D.int IntKind.i64 z.sign, ib (db 2 z.natAbs)] true))] 14)) (fun K => by kernel_rfl) ?_
    refine ⟨by rw [hs, e]; simp, h1, awp_ret ⟨.inl rfl, retD ?_⟩⟩
    have : decide ((s, a) = riz z) = decide (a = dig z.natAbs) := by
      rw [Bool.eq_iff_iff, decide_eq_true_iff, decide_eq_true_iff]
      unfold riz
      simp [e]
    rw [this]; rfl
  · refine awp_sx prog_ok hP hnt [(11, .bool false)] [] [] [6] (by kernel_rfl) (G := fun K => (s == decide (z.sign < (0 : Int))) = false ∧ K (St.mk [(6, V.d (D.bool false))] [(0, some (Blk.mk [D.int IntKind.i64 z.sign, ib (db 2 z.natAbs)] true))] 14)) (fun K => by kernel_rfl) ?_
    refine ⟨by rw [hs]; cases s <;> cases hd : decide (z < 0) <;> simp_all, awp_ret ⟨.inl rfl, retD ?_⟩⟩
    have : decide ((s, a) = riz z) = false := decide_eq_false fun h => e (by unfold riz at h; simp at h; exact h.1)
    rw [this]; rfl
end Go.Abs
