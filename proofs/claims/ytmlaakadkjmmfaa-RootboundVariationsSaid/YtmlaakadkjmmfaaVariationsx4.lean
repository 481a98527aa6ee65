import Derived.WalkKit
import Derived.Orders
import Derived.Below
import Derived.Laws.AppendOwn
import Derived.Calls
import Derived.OpenShut
import Derived.ChangeArms
import Derived.ChangeShapes
import Derived.WideShapes
import Derived.KernelRfl
import Derived.JoinedOf
import Derived.Scope
import Derived.ProofKit
import Derived.ShutString
import Derived.ChangeOld
import Derived.SizedLaws
import Derived.Test.YtmlaakadkjmmfaaProg
import Derived.Test.YtmlaakadkjmmfaaVariationsx0
import Derived.Test.YtmlaakadkjmmfaaVariationsx1
import Derived.Test.YtmlaakadkjmmfaaVariationsx2
import Derived.Test.YtmlaakadkjmmfaaVariationsx3
/- Texts that the proof of RootboundVariations leans on: what is told of the functions it reaches. -/
set_option linter.unusedVariables false
set_option linter.unusedSimpArgs false
namespace Go.Abs
open Go Go.Proofs
set_option maxRecDepth 100000

theorem zcs_ic (z : Int) : zc z = [.int .i64 z.sign, ib (db 2 z.natAbs)] := rfl
theorem zcs_drop {l : List Int} {i : Nat} {z : Int} (h : l[i]? = some z) : (zcs l).drop (((i : Nat) : Int).toNat * 2) = .int .i64 z.sign :: ib (db 2 z.natAbs) :: zcs (l.drop (i + 1)) := by
  rw [Int.toNat_natCast]; exact zcs_at h

theorem ztrim_fn (l : List Int) (hn : l.length ≤ 2 ^ 40) : Fn Try.prog 55 [.d (zl l)] [] (.d (zl (cs (polL l)))) [] := by
  refine fn0 (nt := 22) (res := [.tmp 2]) Try.func55 rfl (by decide) rfl rfl rfl rfl ?_
  intro Cx hP hnt hl
  refine awp_sx prog_ok hP hnt [] [] [] [0] (by kernel_rfl) (G := fun K => K (St.mk [(0, V.d (zl l))] [] 1)) (fun K => by kernel_rfl) ?_
  refine awp_sx prog_ok hP hnt [] [] [] [0, 3] (by kernel_rfl) (G := fun K => K (St.mk [(0, V.d (zl l)), (3, V.d (D.int IntKind.i64 (↑l.length : Int)))] [] 4)) (fun K => by kernel_rfl) ?_
  refine awp_cut (ι := Nat) (fun n => ⟨[(0, .d (zl l)), (3, .d (.int .i64 n))], [], 0⟩) (fun n => n ≤ l.length ∧ (∀ k x, n ≤ k → l[k]? = some x → x = 0) ∧ (n = 0 ∨ ∃ x, l[n - 1]? = some x ∧ x ≠ 0)) ?_ ?_
  · refine awp_block ?_
    refine awp_loop (ι := Nat) (fun n => ⟨[(0, .d (zl l)), (3, .d (.int .i64 n))], [], 0⟩)
      (fun n => n ≤ l.length ∧ (∀ k x, n ≤ k → l[k]? = some x → x = 0)) (fun n => n) l.length [] ⟨Nat.le_refl _, fun k x hk hx => by rw [List.getElem?_eq_none hk] at hx; cases hx⟩ ?_ ?_
    · (constructor <;> simp [hl, envOk, memOk, conv, St.get, St.blk])
    intro n ⟨hle, hz⟩
    refine awp_seq_k fun K hK => ?_
    by_cases h0 : n = 0
    · subst h0
      refine awp_sx prog_ok hP hnt [(8, .bool false)] [] [] [0, 3, 16] (by kernel_rfl) (G := fun K => decide ((↑0 : Int) > (0 : Int)) = false ∧ K (St.mk [(0, V.d (zl l)), (3, V.d (D.int IntKind.i64 (↑0 : Int))), (16, V.d (D.bool false))] [] 11)) (fun K => by kernel_rfl) ?_
      refine ⟨rfl, awp_cond (b := false) rfl nofun fun _ => awp_exit ⟨0, [], ⟨by omega, hz, .inl rfl⟩, ?_⟩⟩
      (constructor <;> simp [hl, envOk, memOk, conv, St.get, St.blk])
    obtain ⟨x, hx⟩ := get_ex (l := l) (i := n - 1) (by omega)
    refine awp_sx prog_ok hP hnt [(8, .bool true), (11, .int .i64 (n - 1 : Nat))] [] [some [.int .i64 x.sign]] [0, 3, 16] (by kernel_rfl) (G := fun K => decide ((↑n : Int) > (0 : Int)) = true ∧ IntKind.i64.wrap ((↑n : Int) - (1 : Int)) = (↑(n - 1) : Int) ∧ ((0 : Int) ≤ (↑(n - 1) : Int) ∧ (↑(n - 1) : Int) < (↑l.length : Int) ∧ ((↑(n - 1) : Int).toNat + 1) * 2 ≤ (zcs l).length) ∧ (List.drop 0 (List.drop ((↑(n - 1) : Int).toNat * 2) (zcs l)))[0]? = some (D.int IntKind.i64 x.sign) ∧ K (St.mk [(0, V.d (zl l)), (3, V.d (D.int IntKind.i64 (↑n : Int))), (16, V.d (D.bool (x.sign == (0 : Int))))] [] 11)) (fun K => by kernel_rfl) ?_
    refine ⟨by simp; omega, by rw [w64] <;> omega, ⟨by omega, by omega, by simp; omega⟩, by rw [zcs_drop hx]; rfl, awp_cond rfl (fun e => awp_skip (hK _ ?_)) (fun e => awp_exit ⟨n, [], ⟨hle, hz, .inr ⟨x, hx, ?_⟩⟩, ?_⟩)⟩
    · simp [Int.sign_eq_zero_iff_zero] at e
      refine awp_block ?_
      refine awp_x prog_ok hP hnt [(18, .int .i64 (n - 1 : Nat))] [] [] [0, 3] (by kernel_rfl) (G := fun K => IntKind.i64.wrap ((↑n : Int) - (1 : Int)) = (↑(n - 1) : Int) ∧ K (St.mk [(0, V.d (zl l)), (3, V.d (D.int IntKind.i64 (↑(n - 1) : Int)))] [] 14)) (fun K => by kernel_rfl) ?_
      refine ⟨by rw [w64] <;> omega, n - 1, [], ⟨⟨by omega, fun k y hk hy => ?_⟩, by omega⟩, ?_⟩
      · by_cases e2 : k = n - 1
        · subst e2; rw [hx] at hy; cases hy; exact e
        · exact hz k y (by omega) hy
      · (constructor <;> simp [hl, envOk, memOk, conv, St.get, St.blk])
    · simp [Int.sign_eq_zero_iff_zero] at e; exact e
    · (constructor <;> simp [hl, envOk, memOk, conv, St.get, St.blk])
  intro n ⟨h1, h2, h3⟩
  refine awp_sx prog_ok hP hnt [] [] [] [2] (by kernel_rfl) (G := fun K => ((0 : Int) ≤ (↑n : Int) ∧ (↑n : Int) ≤ (↑l.length : Int)) ∧ K (St.mk [(2, V.d (D.lst (↑n : Int).toNat (List.take ((↑n : Int).toNat * 2) (zcs l))))] [] 4)) (fun K => by kernel_rfl) ?_
  refine ⟨⟨by omega, by omega⟩, awp_ret ⟨.inl rfl, retD ?_⟩⟩
  rw [← cut_cs h1 h2 h3]
  show V.d _ = V.d _
  rw [zl, List.length_take, Nat.min_eq_left h1, Int.toNat_natCast, fm_take zc_len]

theorem zat_fn (l : List Int) (i : Nat) : Fn Try.prog 70 [.d (zl l), .d (.int .i64 i)] [] (.agg (zc (l.getD i 0))) [] := by
  refine fn0 (nt := 18) (res := [.cell 4 31]) Try.func70 rfl (by decide) rfl rfl rfl rfl ?_
  intro Cx hP hnt hl
  refine awp_sx prog_ok hP hnt [] [] [] [0, 1, 4] (by kernel_rfl) (G := fun K => K (St.mk [(0, V.d (zl l)), (1, V.d (D.int IntKind.i64 (↑i : Int))), (4, V.ptr 0 0)] [(0, some (Blk.mk [D.int IntKind.i64 (0 : Int), D.lst 0 []] true))] 1)) (fun K => by kernel_rfl) ?_
  refine awp_seq_k fun K hK => ?_
  refine awp_sx prog_ok hP hnt [(6, .bool false)] [] [] [0, 1, 4, 12] (by kernel_rfl) (G := fun K => decide ((↑i : Int) < (0 : Int)) = false ∧ K (St.mk [(0, V.d (zl l)), (1, V.d (D.int IntKind.i64 (↑i : Int))), (4, V.ptr 0 0), (12, V.d (D.bool (decide ((↑i : Int) ≥ (↑l.length : Int)))))] [(0, some (Blk.mk [D.int IntKind.i64 (0 : Int), D.lst 0 []] true))] 9)) (fun K => by kernel_rfl) ?_
  refine ⟨by simp, awp_cond rfl (fun e => ?_) (fun e => awp_skip (hK _ ?_))⟩
  · simp at e
    refine awp_sx prog_ok hP hnt [] [] [] [4] (by kernel_rfl) (G := fun K => 2 ≤ [D.int IntKind.i64 (0 : Int), D.lst 0 []].length ∧ K (St.mk [(4, V.ptr 0 0)] [(0, some (Blk.mk [D.int IntKind.i64 (0 : Int), D.lst 0 []] true))] 11)) (fun K => by kernel_rfl) ?_
    refine ⟨by simp, awp_ret ⟨.inl rfl, ?_⟩⟩
    rw [List.getD_eq_getElem?_getD, List.getElem?_eq_none (by omega)]
    show RetOk tab _ (.agg (zc 0)) [] _
    rw [zc_zero]
    exact retC (l := true) rfl rfl rfl rfl
  · simp at e
    obtain ⟨x, hx⟩ := get_ex (l := l) (i := i) (by omega)
    refine awp_sx prog_ok hP hnt [] [] [some (zc x)] [4] (by kernel_rfl) (G := fun K => ((0 : Int) ≤ (↑i : Int) ∧ (↑i : Int) < (↑l.length : Int) ∧ ((↑i : Int).toNat + 1) * 2 ≤ (zcs l).length) ∧ ((List.drop ((↑i : Int).toNat * 2) (zcs l))[0]? = some (D.int IntKind.i64 x.sign) ∧ (List.drop ((↑i : Int).toNat * 2) (zcs l))[1]? = some (ib (db 2 x.natAbs))) ∧ 0 + (zc x).length ≤ [D.int IntKind.i64 (0 : Int), D.lst 0 []].length ∧ K (St.mk [(4, V.ptr 0 0)] [(0, some (Blk.mk [D.int IntKind.i64 x.sign, ib (db 2 x.natAbs)] true))] 14)) (fun K => by kernel_rfl) ?_
    refine ⟨⟨by omega, by omega, by simp; omega⟩, by rw [zcs_drop hx]; exact ⟨rfl, rfl⟩, by simp [zc_len], awp_ret ⟨.inl rfl, ?_⟩⟩
    rw [List.getD_eq_getElem?_getD, hx]
    exact retC (l := true) rfl rfl rfl rfl
theorem zatn_fn (l : List Int) (i : Int) (h : i < 0) : Fn Try.prog 70 [.d (zl l), .d (.int .i64 i)] [] (.agg (zc 0)) [] := by
  refine fn0 (nt := 18) (res := [.cell 4 31]) Try.func70 rfl (by decide) rfl rfl rfl rfl ?_
  intro Cx hP hnt hl
  rw [zc_zero]
  refine awp_sx prog_ok hP hnt [] [] [] [0, 1, 4] (by kernel_rfl) (G := fun K => K (St.mk [(0, V.d (zl l)), (1, V.d (D.int IntKind.i64 i)), (4, V.ptr 0 0)] [(0, some (Blk.mk [D.int IntKind.i64 (0 : Int), D.lst 0 []] true))] 1)) (fun K => by kernel_rfl) ?_
  refine awp_seq_k fun K hK => ?_
  refine awp_sx prog_ok hP hnt [(6, .bool true)] [] [] [0, 1, 4, 12] (by kernel_rfl) (G := fun K => decide (i < (0 : Int)) = true ∧ K (St.mk [(0, V.d (zl l)), (1, V.d (D.int IntKind.i64 i)), (4, V.ptr 0 0), (12, V.d (D.bool true))] [(0, some (Blk.mk [D.int IntKind.i64 (0 : Int), D.lst 0 []] true))] 9)) (fun K => by kernel_rfl) ?_
  refine ⟨by simpa using h, awp_cond (b := true) rfl (fun e => ?_) nofun⟩
  refine awp_sx prog_ok hP hnt [] [] [] [4] (by kernel_rfl) (G := fun K => 2 ≤ [D.int IntKind.i64 (0 : Int), D.lst 0 []].length ∧ K (St.mk [(4, V.ptr 0 0)] [(0, some (Blk.mk [D.int IntKind.i64 (0 : Int), D.lst 0 []] true))] 11)) (fun K => by kernel_rfl) ?_
  exact ⟨by simp, awp_ret ⟨.inl rfl, retC (l := true) rfl rfl rfl rfl⟩⟩

theorem polL_tb {f : Poly} {n : Nat} (h : ∀ k, n ≤ k → f.c k = 0) : polL (tb f.c n) = f := Poly.ext_c fun k => by
  rw [polL_c, List.getD_eq_getElem?_getD]
  by_cases hk : k < n
  · rw [tb_get hk]; rfl
  · rw [List.getElem?_eq_none (by simp; omega), h k (by omega)]; rfl

theorem zpadd_fn (l m : List Int) {K : Nat} (hK : K ≤ 2 ^ 36) (hl1 : Bz K l) (hm1 : Bz K m) (hln : l.length ≤ 2 ^ 39) (hmn : m.length ≤ 2 ^ 39) : Fn Try.prog 64 [.d (zl l), .d (zl m)] [] (.d (zl (cs (polL l + polL m)))) [] := by
  refine fn0 (nt := 31) (res := [.tmp 4]) Try.func64 rfl (by decide) rfl rfl rfl rfl ?_
  intro Cx hP hnt hl
  obtain ⟨N, hN⟩ : ∃ N, N = max l.length m.length := ⟨_, rfl⟩
  obtain ⟨f, hf⟩ : ∃ f, f = polL l + polL m := ⟨_, rfl⟩
  have hfc : ∀ k, f.c k = l.getD k 0 + m.getD k 0 := fun k => by rw [hf]; rfl
  have hfz : ∀ k, N ≤ k → f.c k = 0 := fun k hk => by rw [hfc, List.getD_eq_getElem?_getD, List.getD_eq_getElem?_getD, List.getElem?_eq_none (by omega), List.getElem?_eq_none (by omega)]; rfl
  rw [← hf]
  refine awp_sx prog_ok hP hnt [] [] [] [0, 1] (by kernel_rfl) (G := fun K => K (St.mk [(0, V.d (zl l)), (1, V.d (zl m))] [] 1)) (fun K => by kernel_rfl) ?_
  refine awp_sx prog_ok hP hnt [] [] [] [0, 1, 5] (by kernel_rfl) (G := fun K => K (St.mk [(0, V.d (zl l)), (1, V.d (zl m)), (5, V.nil)] [] 2)) (fun K => by kernel_rfl) ?_
  refine awp_cut (ι := Unit) (fun _ => ⟨[(5, .own 0 0 N 2)], [(0, some ⟨zcs (tb f.c N), true⟩)], 1⟩) (fun _ => True) ?_ ?_
  · refine awp_sx prog_ok hP hnt [] [] [] [0, 1, 5, 6] (by kernel_rfl) (G := fun K => K (St.mk [(0, V.d (zl l)), (1, V.d (zl m)), (5, V.nil), (6, V.d (D.int IntKind.i64 (0 : Int)))] [] 3)) (fun K => by kernel_rfl) ?_
    refine awp_block ?_
    refine awp_loop (ι := Nat) (fun i => ⟨[(0, .d (zl l)), (1, .d (zl m)), (5, .own 0 0 i 2), (6, .d (.int .i64 i))], [(0, some ⟨zcs (tb f.c i), true⟩)], 1⟩)
      (fun i => i ≤ N) (fun i => N - i) 0 [] (by simp) ?_ ?_
    · (constructor <;> simp [hl, envOk, memOk, conv, St.get, St.blk, zcs, fm, tb])
    intro i hi
    refine awp_seq_k fun K hK => ?_
    refine awp_cut (ι := Unit) (fun _ => ⟨[(0, .d (zl l)), (1, .d (zl m)), (5, .own 0 0 i 2), (6, .d (.int .i64 i)), (16, .d (.bool (decide (i < l.length ∨ i < m.length))))], [(0, some ⟨zcs (tb f.c i), true⟩)], 1⟩) (fun _ => True) ?_ ?_
    · by_cases g1 : i < l.length
      · refine awp_x prog_ok hP hnt [(10, .bool true)] [] [] [0, 1, 5, 6, 16] (by kernel_rfl) (G := fun K => decide ((↑i : Int) < (↑l.length : Int)) = true ∧ K (St.mk [(0, V.d (zl l)), (1, V.d (zl m)), (5, V.own 0 0 i 2), (6, V.d (D.int IntKind.i64 (↑i : Int))), (16, V.d (D.bool true))] [(0, some (Blk.mk (zcs (tb f.c i)) true))] 11)) (fun K => by kernel_rfl) ?_
        refine ⟨by simp; omega, (), [(0, 0)], trivial, ?_⟩
        (constructor <;> simp [hl, envOk, memOk, conv, St.get, St.blk, g1])
      · refine awp_x prog_ok hP hnt [(10, .bool false)] [] [] [0, 1, 5, 6, 16] (by kernel_rfl) (G := fun K => decide ((↑i : Int) < (↑l.length : Int)) = false ∧ K (St.mk [(0, V.d (zl l)), (1, V.d (zl m)), (5, V.own 0 0 i 2), (6, V.d (D.int IntKind.i64 (↑i : Int))), (16, V.d (D.bool (decide ((↑i : Int) < (↑m.length : Int)))))] [(0, some (Blk.mk (zcs (tb f.c i)) true))] 11)) (fun K => by kernel_rfl) ?_
        refine ⟨by simp; omega, (), [(0, 0)], trivial, ?_⟩
        (constructor <;> simp [hl, envOk, memOk, conv, St.get, St.blk, g1])
    intro _ _
    refine awp_cond rfl (fun e => awp_skip (hK _ ?_)) (fun e => awp_exit ⟨(), [(0, 0)], trivial, ?_⟩)
    · simp at e
      refine awp_seq_k fun K2 hK2 => ?_
      refine awp_block ?_
      have h1 := zat_fn l i
      have h2 := zat_fn m i
      have h3 := zadd_fn (l.getD i 0) (m.getD i 0) (by assumption) (hl1.getD i) (hm1.getD i)
      rw [← hfc] at h3
      refine awp_x prog_ok hP hnt [] [.val (.agg (zc (l.getD i 0))), .val (.agg (zc (m.getD i 0))), .val (.agg (zc (f.c i)))] [] [0, 1, 5, 6] (by kernel_rfl) (G := fun K => Fn Try.prog 70 [V.d (zl l), V.d (D.int IntKind.i64 (↑i : Int))] [] (V.agg [D.int IntKind.i64 (l.getD i (0 : Int)).sign, ib (db 2 (l.getD i (0 : Int)).natAbs)]) [] ∧ Fn Try.prog 70 [V.d (zl m), V.d (D.int IntKind.i64 (↑i : Int))] [] (V.agg [D.int IntKind.i64 (m.getD i (0 : Int)).sign, ib (db 2 (m.getD i (0 : Int)).natAbs)]) [] ∧ Fn Try.prog 169 [V.agg [D.int IntKind.i64 (l.getD i (0 : Int)).sign, ib (db 2 (l.getD i (0 : Int)).natAbs)], V.agg [D.int IntKind.i64 (m.getD i (0 : Int)).sign, ib (db 2 (m.getD i (0 : Int)).natAbs)]] [] (V.agg [D.int IntKind.i64 (f.c i).sign, ib (db 2 (f.c i).natAbs)]) [] ∧ 2 = 2 ∧ ((zcs (tb f.c i)).length = i * 2 ∧ (i + 1) * 32 ≤ 2 ^ 47) ∧ K (St.mk [(0, V.d (zl l)), (1, V.d (zl m)), (5, V.own 10 0 (i + 1) 2), (6, V.d (D.int IntKind.i64 (↑i : Int)))] [(0, none), (10, some (Blk.mk (zcs (tb f.c i) ++ setCells (zeros 1 (TI.mk (Kind.struct [(0, 1), (1, 1)]) 2 32 [D.int IntKind.i64 (0 : Int), D.lst 0 []]).zero) 0 (zc (f.c i))) true))] 12)) (fun K => by kernel_rfl) ?_
      have happ := zcs_app (tb f.c i) (f.c i)
      rw [tb_snoc] at happ
      refine ⟨h1, h2, h3, rfl, ⟨by simp, by omega⟩, hK2 _ ?_⟩
      refine awp_x prog_ok hP hnt [(18, .int .i64 (i + 1 : Nat))] [] [] [0, 1, 5, 6] (by kernel_rfl) (G := fun K => IntKind.i64.wrap ((↑i : Int) + (1 : Int)) = (↑(i + 1) : Int) ∧ K (St.mk [(0, V.d (zl l)), (1, V.d (zl m)), (5, V.own 10 0 (i + 1) 2), (6, V.d (D.int IntKind.i64 (↑(i + 1) : Int)))] [(0, none), (10, some (Blk.mk (zcs (tb f.c i) ++ setCells (zeros 1 (TI.mk (Kind.struct [(0, 1), (1, 1)]) 2 32 [D.int IntKind.i64 (0 : Int), D.lst 0 []]).zero) 0 (zc (f.c i))) true))] 15)) (fun K => by kernel_rfl) ?_
      refine ⟨by rw [w64] <;> omega, i + 1, [(0, 10)], ⟨by omega, by omega⟩, ?_⟩
      (constructor <;> simp [hl, envOk, memOk, conv, St.get, St.blk, ← happ, setCells, zeros, zc])
    · simp at e
      have : i = N := by omega
      subst this
      (constructor <;> simp [hl, envOk, memOk, conv, St.get, St.blk])
  intro _ _
  have ht := ztrim_fn (tb f.c N) (by simp; omega)
  rw [polL_tb hfz] at ht
  refine awp_sx prog_ok hP hnt [] [.val (.d (zl (cs f)))] [] [4] (by kernel_rfl) (G := fun K => Fn Try.prog 55 [V.d (D.lst N (List.take (N * 2) (List.drop 0 (zcs (tb f.c N)))))] [] (V.d (zl (cs f))) [] ∧ K (St.mk [(4, V.d (zl (cs f)))] [(0, some (Blk.mk (zcs (tb f.c N)) false))] 4)) (fun K => by kernel_rfl) ?_
  refine ⟨?_, awp_ret ⟨.inl rfl, retD rfl⟩⟩
  have := own_fm zc_len (l := tb f.c N) (n := N) (by simp)
  rw [this]
  exact ht

theorem Bz.get {K : Nat} {l : List Int} (h : Bz K l) {i : Nat} {x : Int} (hx : l[i]? = some x) : x.natAbs < 2 ^ K := h x (List.mem_of_getElem? hx)
theorem zpscale_fn (l : List Int) (c : Int) {K : Nat} (hK : K ≤ 2 ^ 36) (hl1 : Bz K l) (hc : c.natAbs < 2 ^ K) (hln : l.length ≤ 2 ^ 39) : Fn Try.prog 65 [.d (zl l), .agg (zc c)] [] (.d (zl (cs (Poly.C c * polL l)))) [] := by
  refine fn0 (nt := 24) (res := [.tmp 4]) Try.func65 rfl (by decide) rfl rfl rfl rfl ?_
  intro Cx hP hnt hl
  obtain ⟨f, hf⟩ : ∃ f, f = Poly.C c * polL l := ⟨_, rfl⟩
  have hfc : ∀ k, f.c k = c * l.getD k 0 := fun k => by rw [hf, Poly.Cmul_c]; rfl
  have hfz : ∀ k, l.length ≤ k → f.c k = 0 := fun k hk => by rw [hfc, List.getD_eq_getElem?_getD, List.getElem?_eq_none hk]; simp
  rw [← hf]
  refine awp_sx prog_ok hP hnt [] [] [] [0, 3] (by kernel_rfl) (G := fun K => K (St.mk [(0, V.d (zl l)), (3, V.ptr 0 0)] [(0, some (Blk.mk [D.int IntKind.i64 c.sign, ib (db 2 c.natAbs)] true))] 2)) (fun K => by kernel_rfl) ?_
  refine awp_sx prog_ok hP hnt [] [] [] [0, 3, 5] (by kernel_rfl) (G := fun K => K (St.mk [(0, V.d (zl l)), (3, V.ptr 0 0), (5, V.nil)] [(0, some (Blk.mk [D.int IntKind.i64 c.sign, ib (db 2 c.natAbs)] true))] 3)) (fun K => by kernel_rfl) ?_
  refine awp_cut (ι := Unit) (fun _ => ⟨[(5, .own 0 0 l.length 2)], [(0, some ⟨zcs (tb f.c l.length), true⟩)], 1⟩) (fun _ => True) ?_ ?_
  · refine awp_sx prog_ok hP hnt [] [] [] [0, 3, 5, 6] (by kernel_rfl) (G := fun K => K (St.mk [(0, V.d (zl l)), (3, V.ptr 0 0), (5, V.nil), (6, V.d (D.int IntKind.i64 (0 : Int)))] [(0, some (Blk.mk [D.int IntKind.i64 c.sign, ib (db 2 c.natAbs)] true))] 4)) (fun K => by kernel_rfl) ?_
    refine awp_block ?_
    refine awp_loop (ι := Nat) (fun i => ⟨[(0, .d (zl l)), (3, .ptr 0 0), (5, .own 1 0 i 2), (6, .d (.int .i64 i))], [(0, some ⟨zc c, true⟩), (1, some ⟨zcs (tb f.c i), true⟩)], 2⟩)
      (fun i => i ≤ l.length) (fun i => l.length - i) 0 [(0, 0)] (by simp) ?_ ?_
    · (constructor <;> simp [hl, envOk, memOk, conv, St.get, St.blk, zcs, fm, tb, zc])
    intro i hi
    refine awp_seq_k fun K hK => ?_
    refine awp_sx prog_ok hP hnt [] [] [] [0, 3, 5, 6, 10] (by kernel_rfl) (G := fun K => K (St.mk [(0, V.d (zl l)), (3, V.ptr 0 0), (5, V.own 1 0 i 2), (6, V.d (D.int IntKind.i64 (↑i : Int))), (10, V.d (D.bool (decide ((↑i : Int) < (↑l.length : Int)))))] [(0, some (Blk.mk [D.int IntKind.i64 c.sign, ib (db 2 c.natAbs)] true)), (1, some (Blk.mk (zcs (tb f.c i)) true))] 6)) (fun K => by kernel_rfl) ?_
    refine awp_cond rfl (fun e => awp_skip (hK _ ?_)) (fun e => awp_exit ⟨(), [(0, 1)], trivial, ?_⟩)
    · simp at e
      obtain ⟨x, hx⟩ := get_ex (l := l) (i := i) e
      have hfx : x * c = f.c i := by rw [hfc, List.getD_eq_getElem?_getD, hx, Int.mul_comm]; rfl
      refine awp_seq_k fun K2 hK2 => ?_
      refine awp_block ?_
      have h3 := zmul_fn x c (by assumption) (hl1.get hx) hc
      rw [hfx] at h3
      refine awp_x prog_ok hP hnt [] [.val (.agg (zc (f.c i)))] [some (zc x), some (zc c)] [0, 3, 5, 6] (by kernel_rfl) (G := fun K => ((0 : Int) ≤ (↑i : Int) ∧ (↑i : Int) < (↑l.length : Int) ∧ ((↑i : Int).toNat + 1) * 2 ≤ (zcs l).length) ∧ ((List.drop ((↑i : Int).toNat * 2) (zcs l))[0]? = some (D.int IntKind.i64 x.sign) ∧ (List.drop ((↑i : Int).toNat * 2) (zcs l))[1]? = some (ib (db 2 x.natAbs))) ∧ ([D.int IntKind.i64 c.sign, ib (db 2 c.natAbs)][0]? = some (D.int IntKind.i64 c.sign) ∧ [D.int IntKind.i64 c.sign, ib (db 2 c.natAbs)][1]? = some (ib (db 2 c.natAbs))) ∧ Fn Try.prog 162 [V.agg [D.int IntKind.i64 x.sign, ib (db 2 x.natAbs)], V.agg [D.int IntKind.i64 c.sign, ib (db 2 c.natAbs)]] [] (V.agg [D.int IntKind.i64 (f.c i).sign, ib (db 2 (f.c i).natAbs)]) [] ∧ 2 = 2 ∧ ((zcs (tb f.c i)).length = i * 2 ∧ (i + 1) * 32 ≤ 2 ^ 47) ∧ K (St.mk [(0, V.d (zl l)), (3, V.ptr 0 0), (5, V.own 14 0 (i + 1) 2), (6, V.d (D.int IntKind.i64 (↑i : Int)))] [(0, some (Blk.mk [D.int IntKind.i64 c.sign, ib (db 2 c.natAbs)] true)), (1, none), (14, some (Blk.mk (zcs (tb f.c i) ++ setCells (zeros 1 (TI.mk (Kind.struct [(0, 1), (1, 1)]) 2 32 [D.int IntKind.i64 (0 : Int), D.lst 0 []]).zero) 0 (zc (f.c i))) true))] 16)) (fun K => by kernel_rfl) ?_
      have happ := zcs_app (tb f.c i) (f.c i)
      rw [tb_snoc] at happ
      refine ⟨⟨by omega, by omega, by simp; omega⟩, by rw [zcs_drop hx]; exact ⟨rfl, rfl⟩, ⟨rfl, rfl⟩, h3, rfl, ⟨by simp, by omega⟩, hK2 _ ?_⟩
      refine awp_x prog_ok hP hnt [(12, .int .i64 (i + 1 : Nat))] [] [] [0, 3, 5, 6] (by kernel_rfl) (G := fun K => IntKind.i64.wrap ((↑i : Int) + (1 : Int)) = (↑(i + 1) : Int) ∧ K (St.mk [(0, V.d (zl l)), (3, V.ptr 0 0), (5, V.own 14 0 (i + 1) 2), (6, V.d (D.int IntKind.i64 (↑(i + 1) : Int)))] [(0, some (Blk.mk [D.int IntKind.i64 c.sign, ib (db 2 c.natAbs)] true)), (1, none), (14, some (Blk.mk (zcs (tb f.c i) ++ setCells (zeros 1 (TI.mk (Kind.struct [(0, 1), (1, 1)]) 2 32 [D.int IntKind.i64 (0 : Int), D.lst 0 []]).zero) 0 (zc (f.c i))) true))] 19)) (fun K => by kernel_rfl) ?_
      refine ⟨by rw [w64] <;> omega, i + 1, [(0, 0), (1, 14)], ⟨by omega, by omega⟩, ?_⟩
      (constructor <;> simp [hl, envOk, memOk, conv, St.get, St.blk, ← happ, setCells, zeros, zc])
    · simp at e
      have : i = l.length := by omega
      subst this
      (constructor <;> simp [hl, envOk, memOk, conv, St.get, St.blk])
  intro _ _
  have ht := ztrim_fn (tb f.c l.length) (by simp; omega)
  rw [polL_tb hfz] at ht
  refine awp_sx prog_ok hP hnt [] [.val (.d (zl (cs f)))] [] [4] (by kernel_rfl) (G := fun K => Fn Try.prog 55 [V.d (D.lst l.length (List.take (l.length * 2) (List.drop 0 (zcs (tb f.c l.length)))))] [] (V.d (zl (cs f))) [] ∧ K (St.mk [(4, V.d (zl (cs f)))] [(0, some (Blk.mk (zcs (tb f.c l.length)) false))] 4)) (fun K => by kernel_rfl) ?_
  refine ⟨?_, awp_ret ⟨.inl rfl, retD rfl⟩⟩
  have := own_fm zc_len (l := tb f.c l.length) (n := l.length) (by simp)
  rw [this]
  exact ht

theorem zup_fn (f : Poly) (n : Nat) (hn : n ≤ 2 ^ 38) (hf : f.sz ≤ 2 ^ 38) : Fn Try.prog 160 [.d (zl (cs f)), .d (.int .i64 n)] [] (.d (zl (cs (Poly.Xp n * f)))) [] := by
  refine fn0 (nt := 24) (res := [.tmp 4]) Try.func160 rfl (by decide) rfl rfl rfl rfl ?_
  intro Cx hP hnt hl
  obtain ⟨M, hM⟩ : ∃ M, M = if f.sz = 0 then 0 else n := ⟨_, rfl⟩
  have hMn : M ≤ n := by rw [hM]; split <;> omega
  have hfin : List.replicate M 0 ++ cs f = cs (Poly.Xp n * f) := by
    by_cases h0 : f.sz = 0
    · have : f = 0 := Poly.eq_zero.2 h0
      subst this
      rw [hM, if_pos h0, show Poly.Xp n * 0 = 0 from Poly.ext_ev fun x _ => by simp, cs_zero]; rfl
    · rw [hM, if_neg h0]
      have hne : f ≠ 0 := fun e => h0 (Poly.eq_zero.1 e)
      have hsz := Poly.sz_mul (Poly.Xp_ne n) hne
      rw [Poly.sz_Xp] at hsz
      apply List.ext_getElem?
      intro k
      rw [List.getElem?_append, List.length_replicate]
      by_cases hk : k < n
      · rw [if_pos hk, List.getElem?_replicate, if_pos hk, cs_get _ _ (by omega), Poly.Xp_mul_c, if_neg (by omega)]
      · rw [if_neg hk]
        by_cases hk2 : k - n < f.sz
        · rw [cs_get _ _ hk2, cs_get _ _ (by omega), Poly.Xp_mul_c, if_pos (by omega)]
        · rw [List.getElem?_eq_none (by simpa using hk2), List.getElem?_eq_none (by simp; omega)]
  rw [← hfin]
  refine awp_sx prog_ok hP hnt [] [] [] [0, 1] (by kernel_rfl) (G := fun K => K (St.mk [(0, V.d (zl (cs f))), (1, V.d (D.int IntKind.i64 (↑n : Int)))] [] 1)) (fun K => by kernel_rfl) ?_
  refine awp_sx prog_ok hP hnt [] [] [] [0, 1, 5] (by kernel_rfl) (G := fun K => K (St.mk [(0, V.d (zl (cs f))), (1, V.d (D.int IntKind.i64 (↑n : Int))), (5, V.nil)] [] 2)) (fun K => by kernel_rfl) ?_
  refine awp_cut (ι := Unit) (fun _ => ⟨[(0, .d (zl (cs f))), (5, .own 0 0 M 2)], [(0, some ⟨zcs (List.replicate M 0), true⟩)], 1⟩) (fun _ => True) ?_ ?_
  · refine awp_sx prog_ok hP hnt [] [] [] [0, 1, 5, 6] (by kernel_rfl) (G := fun K => K (St.mk [(0, V.d (zl (cs f))), (1, V.d (D.int IntKind.i64 (↑n : Int))), (5, V.nil), (6, V.d (D.int IntKind.i64 (0 : Int)))] [] 3)) (fun K => by kernel_rfl) ?_
    refine awp_block ?_
    refine awp_loop (ι := Nat) (fun i => ⟨[(0, .d (zl (cs f))), (1, .d (.int .i64 n)), (5, .own 0 0 i 2), (6, .d (.int .i64 i))], [(0, some ⟨zcs (List.replicate i 0), true⟩)], 1⟩)
      (fun i => i ≤ M) (fun i => M - i) 0 [] (by simp) ?_ ?_
    · (constructor <;> simp [hl, envOk, memOk, conv, St.get, St.blk, zcs, fm])
    intro i hi
    refine awp_seq_k fun K hK => ?_
    refine awp_cut (ι := Unit) (fun _ => ⟨[(0, .d (zl (cs f))), (1, .d (.int .i64 n)), (5, .own 0 0 i 2), (6, .d (.int .i64 i)), (14, .d (.bool (decide (i < n ∧ 0 < f.sz))))], [(0, some ⟨zcs (List.replicate i 0), true⟩)], 1⟩) (fun _ => True) ?_ ?_
    · by_cases g1 : i < n
      · refine awp_x prog_ok hP hnt [(9, .bool true)] [] [] [0, 1, 5, 6, 14] (by kernel_rfl) (G := fun K => decide ((↑i : Int) < (↑n : Int)) = true ∧ K (St.mk [(0, V.d (zl (cs f))), (1, V.d (D.int IntKind.i64 (↑n : Int))), (5, V.own 0 0 i 2), (6, V.d (D.int IntKind.i64 (↑i : Int))), (14, V.d (D.bool (decide ((↑(cs f).length : Int) > (0 : Int)))))] [(0, some (Blk.mk (zcs (List.replicate i (0 : Int))) true))] 9)) (fun K => by kernel_rfl) ?_
        refine ⟨by simp; omega, (), [(0, 0)], trivial, ?_⟩
        (constructor <;> simp [hl, envOk, memOk, conv, St.get, St.blk, g1])
      · refine awp_x prog_ok hP hnt [(9, .bool false)] [] [] [0, 1, 5, 6, 14] (by kernel_rfl) (G := fun K => decide ((↑i : Int) < (↑n : Int)) = false ∧ K (St.mk [(0, V.d (zl (cs f))), (1, V.d (D.int IntKind.i64 (↑n : Int))), (5, V.own 0 0 i 2), (6, V.d (D.int IntKind.i64 (↑i : Int))), (14, V.d (D.bool false))] [(0, some (Blk.mk (zcs (List.replicate i (0 : Int))) true))] 9)) (fun K => by kernel_rfl) ?_
        refine ⟨by simp; omega, (), [(0, 0)], trivial, ?_⟩
        (constructor <;> simp [hl, envOk, memOk, conv, St.get, St.blk, g1])
    intro _ _
    refine awp_cond rfl (fun e => awp_skip (hK _ ?_)) (fun e => awp_exit ⟨(), [(0, 0)], trivial, ?_⟩)
    · simp at e
      have hMe : M = n := by rw [hM, if_neg (by omega)]
      refine awp_seq_k fun K2 hK2 => ?_
      refine awp_block ?_
      refine awp_x prog_ok hP hnt [] [] [] [0, 1, 5, 6] (by kernel_rfl) (G := fun K => 2 = 2 ∧ ((zcs (List.replicate i (0 : Int))).length = i * 2 ∧ (i + 1) * 32 ≤ 2 ^ 47) ∧ K (St.mk [(0, V.d (zl (cs f))), (1, V.d (D.int IntKind.i64 (↑n : Int))), (5, V.own 4 0 (i + 1) 2), (6, V.d (D.int IntKind.i64 (↑i : Int)))] [(0, none), (4, some (Blk.mk (zcs (List.replicate i (0 : Int)) ++ setCells (zeros 1 (TI.mk (Kind.struct [(0, 1), (1, 1)]) 2 32 [D.int IntKind.i64 (0 : Int), D.lst 0 []]).zero) 0 (TI.mk (Kind.struct [(0, 1), (1, 1)]) 2 32 [D.int IntKind.i64 (0 : Int), D.lst 0 []]).zero) true))] 6)) (fun K => by kernel_rfl) ?_
      have happ := zcs_app (List.replicate i 0) 0
      rw [← List.replicate_succ'] at happ
      refine ⟨rfl, ⟨by simp, by omega⟩, hK2 _ ?_⟩
      refine awp_x prog_ok hP hnt [(16, .int .i64 (i + 1 : Nat))] [] [] [0, 1, 5, 6] (by kernel_rfl) (G := fun K => IntKind.i64.wrap ((↑i : Int) + (1 : Int)) = (↑(i + 1) : Int) ∧ K (St.mk [(0, V.d (zl (cs f))), (1, V.d (D.int IntKind.i64 (↑n : Int))), (5, V.own 4 0 (i + 1) 2), (6, V.d (D.int IntKind.i64 (↑(i + 1) : Int)))] [(0, none), (4, some (Blk.mk (zcs (List.replicate i (0 : Int)) ++ setCells (zeros 1 (TI.mk (Kind.struct [(0, 1), (1, 1)]) 2 32 [D.int IntKind.i64 (0 : Int), D.lst 0 []]).zero) 0 (TI.mk (Kind.struct [(0, 1), (1, 1)]) 2 32 [D.int IntKind.i64 (0 : Int), D.lst 0 []]).zero) true))] 9)) (fun K => by kernel_rfl) ?_
      refine ⟨by rw [w64] <;> omega, i + 1, [(0, 4)], ⟨by omega, by omega⟩, ?_⟩
      (constructor <;> simp [hl, envOk, memOk, conv, St.get, St.blk, ← happ, setCells, zeros, zc_zero])
    · simp at e
      have : i = M := by
        rw [hM] at hi ⊢
        by_cases h0 : f.sz = 0
        · rw [if_pos h0] at hi ⊢; omega
        · rw [if_neg h0] at hi ⊢
          rcases Nat.lt_or_ge i n with h | h
          · have := e h; omega
          · omega
      subst this
      (constructor <;> simp [hl, envOk, memOk, conv, St.get, St.blk])
  intro _ _
  refine awp_sx prog_ok hP hnt [] [] [] [4] (by kernel_rfl) (G := fun K => (zcs (cs f)).length = (cs f).length * 2 ∧ ((zcs (List.replicate M (0 : Int))).length = M * 2 ∧ (M + (cs f).length) * 32 ≤ 2 ^ 47) ∧ K (St.mk [(4, V.own 3 0 (M + (cs f).length) 2)] [(0, none), (3, some (Blk.mk (zcs (List.replicate M (0 : Int)) ++ zcs (cs f)) true))] 5)) (fun K => by kernel_rfl) ?_
  refine ⟨by simp, ⟨by simp, by simp; omega⟩, awp_ret ⟨.inl rfl, retOwn rfl rfl ?_⟩⟩
  simp only
  rw [← fm_app]
  have := own_fm zc_len (l := List.replicate M 0 ++ cs f) (n := M + (cs f).length) (by simp)
  rw [this]; rfl

open Poly in
theorem zpmul_fn (f g : Poly) {K : Nat} (hK : K ≤ 2 ^ 34) (hf : ∀ k, (f.c k).natAbs < 2 ^ K) (hg : ∀ k, (g.c k).natAbs < 2 ^ K) (hfs : f.sz ≤ 2 ^ 30) (hgs : g.sz ≤ 2 ^ 30) :
    Fn Try.prog 42 [.d (zl (cs f)), .d (zl (cs g))] [] (.d (zl (cs (f * g)))) [] := by
  refine fn0 (nt := 24) (res := [.tmp 4]) Try.func42 rfl (by decide) rfl rfl rfl rfl ?_
  intro Cx hP hnt hl
  obtain ⟨S, hS0, hS⟩ : ∃ S : Nat → Poly, S 0 = 0 ∧ ∀ i, S (i + 1) = S i + Xp i * (C (g.c i) * f) :=
    ⟨fun i => Nat.rec 0 (fun i s => s + Xp i * (C (g.c i) * f)) i, rfl, fun _ => rfl⟩
  have hSm : ∀ i, ∃ h : Poly, S i = h * f ∧ ∀ k, h.c k = if k < i then g.c k else 0 := fun i => by
    induction i with
    | zero => exact ⟨0, by rw [hS0]; exact ext_ev fun x _ => by simp, fun k => by rw [zero_c, if_neg (by omega)]⟩
    | succ i ih =>
      obtain ⟨h, h1, h2⟩ := ih
      refine ⟨h + C (g.c i) * Xp i, by rw [hS, h1]; exact ext_ev fun x _ => by simp; grind, fun k => ?_⟩
      rw [add_c, Cmul_c, h2, Xp_c]
      by_cases e : k = i
      · subst e; simp
      · by_cases e2 : k < i
        · rw [if_pos e2, if_neg e, if_pos (by omega)]; simp
        · rw [if_neg e2, if_neg e, if_neg (by omega)]; simp
  have hfin : S g.sz = f * g := by
    obtain ⟨h, h1, h2⟩ := hSm g.sz
    have : h = g := ext_c fun k => by
      rw [h2]; split
      · rfl
      · exact (above (by omega)).symm
    rw [h1, this]; exact ext_ev fun x _ => by simp; grind
  have hb : ∀ k, (f.c k).natAbs ≤ 2 ^ K := fun k => Nat.le_of_lt (hf k)
  -- sizes
  have hcsz : ∀ i, (C (g.c i) * f).sz ≤ f.sz := fun i => sz_le fun k hk => by rw [Cmul_c, above hk]; simp
  have hcc : ∀ i k, ((C (g.c i) * f).c k).natAbs < 2 ^ (K + K) := fun i k => by
    rw [Cmul_c, Int.natAbs_mul, Nat.pow_add]
    exact Nat.lt_of_le_of_lt (Nat.mul_le_mul_left _ (hb k)) (Nat.mul_lt_mul_of_pos_right (hg i) (Nat.pow_pos (by omega)))
  have hxc : ∀ i k, ((Xp i * (C (g.c i) * f)).c k).natAbs < 2 ^ (K + K) := fun i k => by
    rw [Xp_mul_c]; split
    · exact hcc i _
    · exact Nat.pow_pos (by omega)
  have hxs : ∀ i, (Xp i * (C (g.c i) * f)).sz ≤ i + f.sz := fun i => sz_le fun k hk => by
    rw [Xp_mul_c]; split
    · exact above (Nat.le_trans (hcsz i) (by omega))
    · rfl
  have hSs : ∀ i, i ≤ g.sz → (S i).sz ≤ g.sz + f.sz := fun i => by
    induction i with
    | zero => intro _; rw [hS0, sz_zero]; omega
    | succ i ih =>
      intro hi
      rw [hS]
      have h1 := ih (by omega)
      have h2 := hxs i
      exact Nat.le_trans (sz_add _ _) (by omega)
  have hSc : ∀ i k, ((S i).c k).natAbs ≤ i * 2 ^ (K + K) := fun i k => by
    induction i with
    | zero => rw [hS0, zero_c]; simp
    | succ i ih =>
      rw [hS, add_c, Nat.succ_mul]
      have h1 := hxc i k
      have := Int.natAbs_add_le ((S i).c k) ((Xp i * (C (g.c i) * f)).c k)
      omega
  have hSc2 : ∀ i, i ≤ g.sz → ∀ k, ((S i).c k).natAbs < 2 ^ (K + K + 31) := fun i hi k => by
    refine Nat.lt_of_le_of_lt (hSc i k) ?_
    have h1 : i * 2 ^ (K + K) ≤ 2 ^ 30 * 2 ^ (K + K) := Nat.mul_le_mul_right _ (by omega)
    have h2 : 2 ^ (K + K + 31) = 2 ^ (K + K) * 2 ^ 31 := Nat.pow_add _ _ _
    have h3 : 0 < 2 ^ (K + K) := Nat.pow_pos (by omega)
    rw [h2]
    generalize 2 ^ (K + K) = B at *
    omega
  refine awp_sx prog_ok hP hnt [] [] [] [0, 1] (by kernel_rfl) (G := fun K => K (St.mk [(0, V.d (zl (cs f))), (1, V.d (zl (cs g)))] [] 1)) (fun K => by kernel_rfl) ?_
  refine awp_sx prog_ok hP hnt [] [] [] [0, 1, 5] (by kernel_rfl) (G := fun K => K (St.mk [(0, V.d (zl (cs f))), (1, V.d (zl (cs g))), (5, V.nil)] [] 2)) (fun K => by kernel_rfl) ?_
  refine awp_cut (ι := Unit) (fun _ => ⟨[(5, .d (zl (cs (f * g))))], [], 0⟩) (fun _ => True) ?_ ?_
  · refine awp_sx prog_ok hP hnt [] [] [] [0, 1, 5, 6] (by kernel_rfl) (G := fun K => K (St.mk [(0, V.d (zl (cs f))), (1, V.d (zl (cs g))), (5, V.nil), (6, V.d (D.int IntKind.i64 (0 : Int)))] [] 3)) (fun K => by kernel_rfl) ?_
    refine awp_block ?_
    refine awp_loop (ι := Nat) (fun i => ⟨[(0, .d (zl (cs f))), (1, .d (zl (cs g))), (5, .d (zl (cs (S i)))), (6, .d (.int .i64 i))], [], 0⟩)
      (fun i => i ≤ g.sz) (fun i => g.sz - i) 0 [] (by simp) ?_ ?_
    · (constructor <;> simp [hl, envOk, memOk, conv, St.get, St.blk, hS0, cs_zero, zl, fm])
    intro i hi
    refine awp_seq_k fun K1 hK1 => ?_
    refine awp_sx prog_ok hP hnt [] [] [] [0, 1, 5, 6, 10] (by kernel_rfl) (G := fun K => K (St.mk [(0, V.d (zl (cs f))), (1, V.d (zl (cs g))), (5, V.d (zl (cs (S i)))), (6, V.d (D.int IntKind.i64 (↑i : Int))), (10, V.d (D.bool (decide ((↑i : Int) < (↑(cs g).length : Int)))))] [] 4)) (fun K => by kernel_rfl) ?_
    refine awp_cond rfl (fun e => awp_skip (hK1 _ ?_)) (fun e => awp_exit ⟨(), [], trivial, ?_⟩)
    · simp at e
      have hx := cs_get g i e
      refine awp_seq_k fun K2 hK2 => ?_
      refine awp_block ?_
      have h1 := zpscale_fn (cs f) (g.c i) (K := K) (by omega) (Bz.cs hf) (hg i) (by simp; omega)
      rw [polL_cs] at h1
      have h2 := zup_fn (C (g.c i) * f) i (by omega) (by have := hcsz i; omega)
      have h3 := zpadd_fn (cs (S i)) (cs (Xp i * (C (g.c i) * f))) (K := K + K + 31) (by omega) (Bz.cs (hSc2 i hi)) (Bz.cs fun k => Nat.lt_of_lt_of_le (hxc i k) (Nat.pow_le_pow_right (by omega) (by omega))) (by have := hSs i hi; simp; omega) (by have := hxs i; simp; omega)
      rw [polL_cs, polL_cs, ← hS] at h3
      refine awp_x prog_ok hP hnt [] [.val (.d (zl (cs (C (g.c i) * f)))), .val (.d (zl (cs (Xp i * (C (g.c i) * f))))), .val (.d (zl (cs (S (i + 1)))))] [some (zc (g.c i))] [0, 1, 5, 6] (by kernel_rfl) (G := fun K => ((0 : Int) ≤ (↑i : Int) ∧ (↑i : Int) < (↑(cs g).length : Int) ∧ ((↑i : Int).toNat + 1) * 2 ≤ (zcs (cs g)).length) ∧ ((List.drop ((↑i : Int).toNat * 2) (zcs (cs g)))[0]? = some (D.int IntKind.i64 (g.c i).sign) ∧ (List.drop ((↑i : Int).toNat * 2) (zcs (cs g)))[1]? = some (ib (db 2 (g.c i).natAbs))) ∧ Fn Try.prog 65 [V.d (zl (cs f)), V.agg [D.int IntKind.i64 (g.c i).sign, ib (db 2 (g.c i).natAbs)]] [] (V.d (zl (cs (C (g.c i) * f)))) [] ∧ Fn Try.prog 160 [V.d (zl (cs (C (g.c i) * f))), V.d (D.int IntKind.i64 (↑i : Int))] [] (V.d (zl (cs (Xp i * (C (g.c i) * f))))) [] ∧ Fn Try.prog 64 [V.d (zl (cs (S i))), V.d (zl (cs (Xp i * (C (g.c i) * f))))] [] (V.d (zl (cs (S (i + 1))))) [] ∧ K (St.mk [(0, V.d (zl (cs f))), (1, V.d (zl (cs g))), (5, V.d (zl (cs (S (i + 1))))), (6, V.d (D.int IntKind.i64 (↑i : Int)))] [] 15)) (fun K => by kernel_rfl) ?_
      refine ⟨⟨by omega, by simp; omega, by simp; omega⟩, by rw [zcs_drop hx]; exact ⟨rfl, rfl⟩, h1, h2, h3, hK2 _ ?_⟩
      refine awp_x prog_ok hP hnt [(12, .int .i64 (i + 1 : Nat))] [] [] [0, 1, 5, 6] (by kernel_rfl) (G := fun K => IntKind.i64.wrap ((↑i : Int) + (1 : Int)) = (↑(i + 1) : Int) ∧ K (St.mk [(0, V.d (zl (cs f))), (1, V.d (zl (cs g))), (5, V.d (zl (cs (S (i + 1))))), (6, V.d (D.int IntKind.i64 (↑(i + 1) : Int)))] [] 18)) (fun K => by kernel_rfl) ?_
      refine ⟨by rw [w64] <;> omega, i + 1, [], ⟨by omega, by omega⟩, ?_⟩
      (constructor <;> simp [hl, envOk, memOk, conv, St.get, St.blk])
    · simp at e
      have : i = g.sz := by omega
      subst this
      (constructor <;> simp [hl, envOk, memOk, conv, St.get, St.blk, hfin])
  intro _ _
  refine awp_sx prog_ok hP hnt [] [] [] [4] (by kernel_rfl) (G := fun K => K (St.mk [(4, V.d (zl (cs (f * g))))] [] 2)) (fun K => by kernel_rfl) ?_
  exact awp_ret ⟨.inl rfl, retD rfl⟩

/-- the derivative -/
def Poly.der (f : Poly) : Poly := ⟨fun k => (k + 1 : Nat) * f.c (k + 1), f.sz, fun k hk => by rw [Poly.above (by omega)]; simp⟩
theorem zpder_fn (f : Poly) {K : Nat} (hK : K ≤ 2 ^ 34) (hK2 : 31 ≤ K) (hf : ∀ k, (f.c k).natAbs < 2 ^ K) (hfs : f.sz ≤ 2 ^ 30) :
    Fn Try.prog 47 [.d (zl (cs f))] [] (.d (zl (cs f.der))) [] := by
  refine fn0 (nt := 23) (res := [.tmp 2]) Try.func47 rfl (by decide) rfl rfl rfl rfl ?_
  intro Cx hP hnt hl
  have hdc : ∀ k, f.der.c k = (k + 1 : Nat) * f.c (k + 1) := fun k => rfl
  have hdz : ∀ k, f.sz - 1 ≤ k → f.der.c k = 0 := fun k hk => by rw [hdc, Poly.above (by omega)]; simp
  refine awp_sx prog_ok hP hnt [] [] [] [0] (by kernel_rfl) (G := fun K => K (St.mk [(0, V.d (zl (cs f)))] [] 1)) (fun K => by kernel_rfl) ?_
  refine awp_sx prog_ok hP hnt [] [] [] [0, 3] (by kernel_rfl) (G := fun K => K (St.mk [(0, V.d (zl (cs f))), (3, V.nil)] [] 2)) (fun K => by kernel_rfl) ?_
  refine awp_cut (ι := Unit) (fun _ => ⟨[(3, .own 0 0 (f.sz - 1) 2)], [(0, some ⟨zcs (tb f.der.c (f.sz - 1)), true⟩)], 1⟩) (fun _ => True) ?_ ?_
  · refine awp_sx prog_ok hP hnt [] [] [] [0, 3, 4] (by kernel_rfl) (G := fun K => K (St.mk [(0, V.d (zl (cs f))), (3, V.nil), (4, V.d (D.int IntKind.i64 (1 : Int)))] [] 3)) (fun K => by kernel_rfl) ?_
    refine awp_block ?_
    refine awp_loop (ι := Nat) (fun i => ⟨[(0, .d (zl (cs f))), (3, .own 0 0 i 2), (4, .d (.int .i64 (i + 1 : Nat)))], [(0, some ⟨zcs (tb f.der.c i), true⟩)], 1⟩)
      (fun i => i ≤ f.sz - 1) (fun i => f.sz - 1 - i) 0 [] (by simp) ?_ ?_
    · (constructor <;> simp [hl, envOk, memOk, conv, St.get, St.blk, zcs, fm, tb])
    intro i hi
    refine awp_seq_k fun K hK => ?_
    refine awp_sx prog_ok hP hnt [] [] [] [0, 3, 4, 8] (by kernel_rfl) (G := fun K => K (St.mk [(0, V.d (zl (cs f))), (3, V.own 0 0 i 2), (4, V.d (D.int IntKind.i64 (↑(i + 1) : Int))), (8, V.d (D.bool (decide ((↑(i + 1) : Int) < (↑(cs f).length : Int)))))] [(0, some (Blk.mk (zcs (tb f.der.c i)) true))] 5)) (fun K => by kernel_rfl) ?_
    refine awp_cond rfl (fun e => awp_skip (hK _ ?_)) (fun e => awp_exit ⟨(), [(0, 0)], trivial, ?_⟩)
    · simp at e
      have hx := cs_get f (i + 1) (by omega)
      refine awp_seq_k fun K2 hK2 => ?_
      refine awp_block ?_
      have h1 := zsmall_fn ((i + 1 : Nat) : Int) (by omega)
      have hi2 : ((i + 1 : Nat) : Int).natAbs < 2 ^ 31 := by omega
      have h3 := zmul_fn (f.c (i + 1)) ((i + 1 : Nat) : Int) (by have : 34 ≤ 36 := by omega
                                                                 exact Nat.le_trans ‹_› (Nat.pow_le_pow_right (by omega) this)) (hf (i + 1)) (Nat.lt_of_lt_of_le hi2 (Nat.pow_le_pow_right (by omega) (by assumption)))
      rw [Int.mul_comm, ← hdc] at h3
      refine awp_x prog_ok hP hnt [] [.val (.agg (zc ((i + 1 : Nat) : Int))), .val (.agg (zc (f.der.c i)))] [some (zc (f.c (i + 1)))] [0, 3, 4] (by kernel_rfl) (G := fun K => ((0 : Int) ≤ (↑(i + 1) : Int) ∧ (↑(i + 1) : Int) < (↑(cs f).length : Int) ∧ ((↑(i + 1) : Int).toNat + 1) * 2 ≤ (zcs (cs f)).length) ∧ ((List.drop ((↑(i + 1) : Int).toNat * 2) (zcs (cs f)))[0]? = some (D.int IntKind.i64 (f.c (i + 1)).sign) ∧ (List.drop ((↑(i + 1) : Int).toNat * 2) (zcs (cs f)))[1]? = some (ib (db 2 (f.c (i + 1)).natAbs))) ∧ Fn Try.prog 41 [V.d (D.int IntKind.i64 (↑(i + 1) : Int))] [] (V.agg [D.int IntKind.i64 (↑(i + 1) : Int).sign, ib (db 2 (↑(i + 1) : Int).natAbs)]) [] ∧ Fn Try.prog 162 [V.agg [D.int IntKind.i64 (f.c (i + 1)).sign, ib (db 2 (f.c (i + 1)).natAbs)], V.agg [D.int IntKind.i64 (↑(i + 1) : Int).sign, ib (db 2 (↑(i + 1) : Int).natAbs)]] [] (V.agg [D.int IntKind.i64 (f.der.c i).sign, ib (db 2 (f.der.c i).natAbs)]) [] ∧ 2 = 2 ∧ ((zcs (tb f.der.c i)).length = i * 2 ∧ (i + 1) * 32 ≤ 2 ^ 47) ∧ K (St.mk [(0, V.d (zl (cs f))), (3, V.own 14 0 (i + 1) 2), (4, V.d (D.int IntKind.i64 (↑(i + 1) : Int)))] [(0, none), (14, some (Blk.mk (zcs (tb f.der.c i) ++ setCells (zeros 1 (TI.mk (Kind.struct [(0, 1), (1, 1)]) 2 32 [D.int IntKind.i64 (0 : Int), D.lst 0 []]).zero) 0 (zc (f.der.c i))) true))] 16)) (fun K => by kernel_rfl) ?_
      have happ := zcs_app (tb f.der.c i) (f.der.c i)
      rw [tb_snoc] at happ
      refine ⟨⟨by omega, by simp; omega, by simp; omega⟩, by rw [zcs_drop hx]; exact ⟨rfl, rfl⟩, h1, h3, rfl, ⟨by simp, by omega⟩, hK2 _ ?_⟩
      refine awp_x prog_ok hP hnt [(10, .int .i64 (i + 1 + 1 : Nat))] [] [] [0, 3, 4] (by kernel_rfl) (G := fun K => IntKind.i64.wrap ((↑(i + 1) : Int) + (1 : Int)) = (↑(i + 1 + 1) : Int) ∧ K (St.mk [(0, V.d (zl (cs f))), (3, V.own 14 0 (i + 1) 2), (4, V.d (D.int IntKind.i64 (↑(i + 1 + 1) : Int)))] [(0, none), (14, some (Blk.mk (zcs (tb f.der.c i) ++ setCells (zeros 1 (TI.mk (Kind.struct [(0, 1), (1, 1)]) 2 32 [D.int IntKind.i64 (0 : Int), D.lst 0 []]).zero) 0 (zc (f.der.c i))) true))] 19)) (fun K => by kernel_rfl) ?_
      refine ⟨by rw [w64] <;> omega, i + 1, [(0, 14)], ⟨by omega, by omega⟩, ?_⟩
      (constructor <;> simp [hl, envOk, memOk, conv, St.get, St.blk, ← happ, setCells, zeros, zc])
    · simp at e
      have : i = f.sz - 1 := by omega
      subst this
      (constructor <;> simp [hl, envOk, memOk, conv, St.get, St.blk])
  intro _ _
  have ht := ztrim_fn (tb f.der.c (f.sz - 1)) (by simp; omega)
  rw [polL_tb hdz] at ht
  refine awp_sx prog_ok hP hnt [] [.val (.d (zl (cs f.der)))] [] [2] (by kernel_rfl) (G := fun K => Fn Try.prog 55 [V.d (D.lst (f.sz - 1) (List.take ((f.sz - 1) * 2) (List.drop 0 (zcs (tb f.der.c (f.sz - 1))))))] [] (V.d (zl (cs f.der))) [] ∧ K (St.mk [(2, V.d (zl (cs f.der)))] [(0, some (Blk.mk (zcs (tb f.der.c (f.sz - 1))) false))] 4)) (fun K => by kernel_rfl) ?_
  refine ⟨?_, awp_ret ⟨.inl rfl, retD rfl⟩⟩
  have := own_fm zc_len (l := tb f.der.c (f.sz - 1)) (n := f.sz - 1) (by simp)
  rw [this]
  exact ht
end Go.Abs

set_option linter.unusedVariables false
set_option linter.unusedSimpArgs false
namespace Go.Abs
open Go Go.Proofs Poly

/-- what raw coefficients say -/
def pol (ps : List RI) : Poly := ⟨co ps, ps.length, fun k hk => co_beyond hk⟩
/-- canonical coefficients -/
noncomputable def cp (f : Poly) : List RI := (cs f).map riz
theorem pol_c (ps : List RI) (k : Nat) : (pol ps).c k = co ps k := rfl
theorem pol_sz (ps : List RI) : (pol ps).sz ≤ ps.length := sz_le fun k hk => co_beyond hk
theorem cp_mz (f : Poly) : cp f = mz f.c f.sz := by unfold cp cs mz; rw [List.map_map]; rfl
@[simp] theorem cp_len (f : Poly) : (cp f).length = f.sz := by simp [cp]
theorem cp_get (f : Poly) {k : Nat} (h : k < f.sz) : (cp f)[k]? = some (riz (f.c k)) := by rw [cp_mz, mz_get h]
@[simp] theorem pol_cp (f : Poly) : pol (cp f) = f := ext_c fun k => by
  rw [pol_c]
  rcases Nat.lt_or_ge k f.sz with h | h
  · rw [co_some (cp_get f h), rval_riz]
  · rw [co_beyond (by simpa using h), above h]
theorem cp_inj {f g : Poly} (h : cp f = cp g) : f = g := by rw [← pol_cp f, h, pol_cp]
theorem cp_zero : cp 0 = [] := by unfold cp; rw [cs_zero]; rfl
theorem zdeg_sz {f : Poly} {n : Nat} (hn : f.sz ≤ n) : zdeg f.c n = f.sz := by
  rw [zdeg_more hn (fun k h _ => above h)]
  by_cases h : f.sz = 0
  · rw [h]; rfl
  · exact zdeg_stop (by omega) (last (by omega))
theorem can_eq {f : Poly} {F : Nat → Int} {n : Nat} (h : ∀ k, F k = f.c k) (hn : f.sz ≤ n) : can F n = cp f := by
  rw [cp_mz, can_ext (G := f.c) (fun k _ => h k), can, zdeg_sz hn]
theorem rtrim_lenp (ps : List RI) : (rtrim ps).length = (pol ps).sz := by
  rw [rtrim_len]; exact zdeg_sz (f := pol ps) (pol_sz ps)

/-- raw coefficients of bounded size -/
structure W (i : Nat) (ps : List RI) : Prop where
  len : ps.length ≤ 100 * 2 ^ i
  ok : Pok (40 * 4 ^ i) ps
/-- polynomials of bounded size -/
structure Lv (i : Nat) (f : Poly) : Prop where
  len : f.sz ≤ 100 * 2 ^ i
  ok : ∀ k, (f.c k).natAbs < 4294967296 ^ (40 * 4 ^ i)
theorem W.lv {i : Nat} {ps : List RI} (h : W i ps) : Lv i (pol ps) := ⟨Nat.le_trans (pol_sz ps) h.len, fun k => co_abs h.ok k⟩
theorem Lv.w {i : Nat} {f : Poly} (h : Lv i f) : W i (cp f) := ⟨by rw [cp_len]; exact h.len, by rw [cp_mz]; exact mz_ok h.ok⟩
theorem p2 {i j : Nat} (h : i ≤ j) : 2 ^ i ≤ 2 ^ j := Nat.pow_le_pow_right (by omega) h
theorem p4 {i j : Nat} (h : i ≤ j) : 4 ^ i ≤ 4 ^ j := Nat.pow_le_pow_right (by omega) h
theorem lim2 {i : Nat} (h : i ≤ 12) : 2 ^ i ≤ 4096 := Nat.le_trans (p2 h) (by decide)
theorem lim4 {i : Nat} (h : i ≤ 12) : 4 ^ i ≤ 16777216 := Nat.le_trans (p4 h) (by decide)
theorem pB {i j : Nat} (h : i ≤ j) : 4294967296 ^ (40 * 4 ^ i) ≤ 4294967296 ^ (40 * 4 ^ j) := Nat.pow_le_pow_right (by omega) (by have := p4 h; omega)
theorem W.mono {i j : Nat} {ps : List RI} (h : W i ps) (hij : i ≤ j) : W j ps := ⟨Nat.le_trans h.len (by have := p2 hij; omega), pok_mono (by have := p4 hij; omega) h.ok⟩
theorem Lv.mono {i j : Nat} {f : Poly} (h : Lv i f) (hij : i ≤ j) : Lv j f := ⟨Nat.le_trans h.len (by have := p2 hij; omega), fun k => Nat.lt_of_lt_of_le (h.ok k) (pB hij)⟩
theorem Lv.add {i : Nat} {f g : Poly} (hf : Lv i f) (hg : Lv i g) : Lv (i + 1) (f + g) := by
  refine ⟨?_, fun k => ?_⟩
  · have h1 := sz_add f g
    have := hf.len; have := hg.len
    rw [Nat.pow_succ]; omega
  · have := (add_small (hf.ok k) (hg.ok k)).1
    exact Nat.lt_of_lt_of_le this (Nat.pow_le_pow_right (by omega) (by rw [Nat.pow_succ]; have := Nat.pow_pos (n := i) (a := 4) (by omega); omega))
theorem Lv.sub {i : Nat} {f g : Poly} (hf : Lv i f) (hg : Lv i g) : Lv (i + 1) (f - g) := by
  refine ⟨?_, fun k => ?_⟩
  · have h1 := sz_sub f g
    have := hf.len; have := hg.len
    rw [Nat.pow_succ]; omega
  · have := (add_small (hf.ok k) (hg.ok k)).2
    exact Nat.lt_of_lt_of_le this (Nat.pow_le_pow_right (by omega) (by rw [Nat.pow_succ]; have := Nat.pow_pos (n := i) (a := 4) (by omega); omega))
theorem szmul_le (f g : Poly) : (f * g).sz ≤ f.sz + g.sz := sz_le fun k hk => cv_fin (fun _ h => above h) (fun _ h => above h) k (by omega)
theorem Lv.mul {i : Nat} {f g : Poly} (hi : i ≤ 12) (hf : Lv i f) (hg : Lv i g) : Lv (i + 1) (f * g) := by
  have h2 := lim2 hi
  refine ⟨?_, fun k => ?_⟩
  · have h1 := szmul_le f g
    have := hf.len; have := hg.len
    rw [Nat.pow_succ]; omega
  · have e : (f * g).c k = mulC f.c g.c f.sz k := by rw [mul_c, mulC_cv fun a ha => above ha]
    rw [e]
    have h3 := mulC_abs (fun a => Nat.le_of_lt (hf.ok a)) (fun a => Nat.le_of_lt (hg.ok a)) f.sz k
    have h4 := hf.len
    have h5 := mul_bound (i := f.sz) (K := 40 * 4 ^ i) (by omega) (Nat.le_refl _)
    refine Nat.lt_of_lt_of_le (Nat.lt_of_le_of_lt h3 h5) (Nat.pow_le_pow_right (by omega) ?_)
    rw [Nat.pow_succ]; have := Nat.pow_pos (n := i) (a := 4) (by omega); omega
theorem Lv.cmul {i : Nat} {f : Poly} {a : Int} (ha : a.natAbs < 4294967296 ^ (40 * 4 ^ i)) (hf : Lv i f) : Lv (i + 1) (C a * f) := by
  refine ⟨?_, fun k => ?_⟩
  · have h1 : (C a * f).sz ≤ f.sz := sz_le fun k hk => by rw [Cmul_c, above hk]; simp
    have := hf.len
    rw [Nat.pow_succ]; omega
  · rw [Cmul_c, Int.natAbs_mul]
    have h1 : a.natAbs * (f.c k).natAbs < 4294967296 ^ (40 * 4 ^ i) * 4294967296 ^ (40 * 4 ^ i) := Nat.lt_of_le_of_lt (Nat.mul_le_mul_left _ (Nat.le_of_lt (hf.ok k))) (Nat.mul_lt_mul_of_pos_right ha (Nat.pow_pos (by omega)))
    rw [← Nat.pow_add] at h1
    exact Nat.lt_of_lt_of_le h1 (Nat.pow_le_pow_right (by omega) (by rw [Nat.pow_succ]; omega))
/-- in bits -/
theorem Lv.bits {i : Nat} {f : Poly} (h : Lv i f) (k : Nat) : (f.c k).natAbs < 2 ^ (1280 * 4 ^ i) := by
  have := h.ok k
  rwa [show (4294967296 : Nat) = 2 ^ 32 by rfl, ← Nat.pow_mul, show 32 * (40 * 4 ^ i) = 1280 * 4 ^ i by omega] at this
theorem lvbits {i : Nat} (h : i ≤ 12) : 1280 * 4 ^ i ≤ 2 ^ 36 := by have := lim4 h; omega
theorem few_w {a b : Nat} {ps : List RI} (hd : ∀ p ∈ ps, Dg p.2) (h : few a b ps = true) (ha : a ≤ 100) (hb : b ≤ 40) : W 0 ps := by
  have := few_sz hd h
  exact ⟨Nat.le_trans this.1 (by omega), pok_mono (by omega) this.2⟩

noncomputable instance : DecidableEq Poly := fun a b => Classical.propDecidable (a = b)
/-! ### The program's polynomials -/
theorem mulP {i : Nat} {ps qs : List RI} (hi : i ≤ 12) (hp : W i ps) (hq : W i qs) : Fn Try.prog 44 [.d (rp ps), .d (rp qs)] [] (.d (rp (cp (pol ps * pol qs)))) [] := by
  have h2 := lim2 hi
  have h4 := lim4 hi
  have := umul_fn (40 * 4 ^ i) ps qs (by omega) (by have := hp.len; omega) (by have := hq.len; omega) hp.ok hq.ok
  rw [can_eq (f := pol ps * pol qs) (fun k => by rw [mul_c]; exact mulC_cv (fun a ha => co_beyond ha) k) (Nat.le_trans (szmul_le _ _) (Nat.add_le_add (pol_sz _) (pol_sz _)))] at this
  exact this
theorem addP {i : Nat} {ps qs : List RI} (hi : i ≤ 12) (hp : W i ps) (hq : W i qs) : Fn Try.prog 48 [.d (rp ps), .d (rp qs)] [] (.d (rp (cp (pol ps + pol qs)))) [] := by
  have h2 := lim2 hi
  have h4 := lim4 hi
  have := uadd_fn (40 * 4 ^ i) ps qs (by omega) (by have := hp.len; omega) (by have := hq.len; omega) hp.ok hq.ok
  rw [can_eq (F := fun k => co ps k + co qs k) (f := pol ps + pol qs) (fun k => rfl) (Nat.le_trans (sz_add _ _) (by have := pol_sz ps; have := pol_sz qs; omega))] at this
  exact this
theorem subP {i : Nat} {ps qs : List RI} (hi : i ≤ 12) (hp : W i ps) (hq : W i qs) : Fn Try.prog 50 [.d (rp ps), .d (rp qs)] [] (.d (rp (cp (pol ps - pol qs)))) [] := by
  have h2 := lim2 hi
  have h4 := lim4 hi
  have := usub_fn (40 * 4 ^ i) ps qs (by omega) (by have := hp.len; omega) (by have := hq.len; omega) hp.ok hq.ok
  rw [can_eq (F := fun k => co ps k - co qs k) (f := pol ps - pol qs) (fun k => rfl) (Nat.le_trans (sz_sub _ _) (by have := pol_sz ps; have := pol_sz qs; omega))] at this
  exact this
theorem ofP (l : List Int) (hn : l.length ≤ 2 ^ 40) (hl : In64 l) : Fn Try.prog 51 [.d (.lst l.length (i64s l))] [] (.d (rp (cp (polL l)))) [] := by
  have := uof_fn l hn hl
  rw [can_eq (F := fun k => l.getD k 0) (f := polL l) (fun k => rfl) (polL_sz l)] at this
  exact this
theorem sameP {i : Nat} {ps qs : List RI} (hi : i ≤ 12) (hp : W i ps) (hq : W i qs) : Fn Try.prog 49 [.d (rp ps), .d (rp qs)] [] (.d (.bool (decide (pol ps = pol qs)))) [] := by
  have h2 := lim2 hi
  have h4 := lim4 hi
  have := usame_fn ps qs (by have := hp.len; omega) (by have := hq.len; omega) (pok_mono (by omega) hp.ok) (pok_mono (by omega) hq.ok)
  rw [show (cmpP ps qs == 0) = decide (pol ps = pol qs) by
    rw [Bool.eq_iff_iff, beq_iff_eq, cmpP_zero, decide_eq_true_iff]
    exact ⟨fun h => ext_c h, fun h k => by rw [← pol_c, h]; rfl⟩] at this
  exact this
end Go.Abs

set_option linter.unusedVariables false
set_option linter.unusedSimpArgs false
namespace Go.Abs
open Go Go.Proofs
set_option maxRecDepth 100000

theorem zsame_fn (l m : List Int) {K : Nat} (hK : K ≤ 2 ^ 36) (hl1 : Bz K l) (hm1 : Bz K m) (hln : l.length ≤ 2 ^ 40) : Fn Try.prog 71 [.d (zl l), .d (zl m)] [] (.d (.bool (decide (l = m)))) [] := by
  refine fn0 (nt := 27) (res := [.tmp 4]) Try.func71 rfl (by decide) rfl rfl rfl rfl ?_
  intro Cx hP hnt hl
  refine awp_sx prog_ok hP hnt [] [] [] [0, 1] (by kernel_rfl) (G := fun K => K (St.mk [(0, V.d (zl l)), (1, V.d (zl m))] [] 1)) (fun K => by kernel_rfl) ?_
  refine awp_seq_k fun K hK => ?_
  refine awp_sx prog_ok hP hnt [] [] [] [0, 1, 10] (by kernel_rfl) (G := fun K => K (St.mk [(0, V.d (zl l)), (1, V.d (zl m)), (10, V.d (D.bool ((↑l.length : Int) != (↑m.length : Int))))] [] 6)) (fun K => by kernel_rfl) ?_
  refine awp_cond rfl (fun e => ?_) (fun e => awp_skip (hK _ ?_))
  · simp at e
    refine awp_sx prog_ok hP hnt [] [] [] [4] (by kernel_rfl) (G := fun K => K (St.mk [(4, V.d (D.bool false))] [] 7)) (fun K => by kernel_rfl) ?_
    refine awp_ret ⟨.inl rfl, retD ?_⟩
    rw [decide_eq_false (fun h => e (by rw [h]))]; rfl
  simp at e
  refine awp_cut (ι := Unit) (fun _ => ⟨[], [], 0⟩) (fun _ => l = m) ?_ ?_
  · refine awp_sx prog_ok hP hnt [] [] [] [0, 1, 5] (by kernel_rfl) (G := fun K => K (St.mk [(0, V.d (zl l)), (1, V.d (zl m)), (5, V.d (D.int IntKind.i64 (0 : Int)))] [] 7)) (fun K => by kernel_rfl) ?_
    refine awp_block ?_
    refine awp_loop (ι := Nat) (fun i => ⟨[(0, .d (zl l)), (1, .d (zl m)), (5, .d (.int .i64 i))], [], 0⟩)
      (fun i => i ≤ l.length ∧ ∀ k, k < i → l[k]? = m[k]?) (fun i => l.length - i) 0 [] ⟨by simp, by simp⟩ ?_ ?_
    · (constructor <;> simp [hl, envOk, memOk, conv, St.get, St.blk])
    intro i ⟨hi, hz⟩
    refine awp_seq_k fun K hK => ?_
    refine awp_sx prog_ok hP hnt [] [] [] [0, 1, 5, 14] (by kernel_rfl) (G := fun K => K (St.mk [(0, V.d (zl l)), (1, V.d (zl m)), (5, V.d (D.int IntKind.i64 (↑i : Int))), (14, V.d (D.bool (decide ((↑i : Int) < (↑l.length : Int)))))] [] 4)) (fun K => by kernel_rfl) ?_
    refine awp_cond rfl (fun e => awp_skip (hK _ ?_)) (fun e => awp_exit ⟨(), [], ?_, ?_⟩)
    · simp at e
      obtain ⟨x, hx⟩ := get_ex (l := l) (i := i) e
      obtain ⟨y, hy⟩ := get_ex (l := m) (i := i) (by omega)
      refine awp_seq_k fun K2 hK2 => ?_
      refine awp_block ?_
      have hc := zcmp_fn x y (by assumption) (hl1.get hx) (hm1.get hy)
      refine awp_sx prog_ok hP hnt [] [.val (.d (.int .i64 (cmpZ x y)))] [some (zc x), some (zc y)] [0, 1, 5, 26] (by kernel_rfl) (G := fun K => ((0 : Int) ≤ (↑i : Int) ∧ (↑i : Int) < (↑l.length : Int) ∧ ((↑i : Int).toNat + 1) * 2 ≤ (zcs l).length) ∧ ((List.drop ((↑i : Int).toNat * 2) (zcs l))[0]? = some (D.int IntKind.i64 x.sign) ∧ (List.drop ((↑i : Int).toNat * 2) (zcs l))[1]? = some (ib (db 2 x.natAbs))) ∧ ((0 : Int) ≤ (↑i : Int) ∧ (↑i : Int) < (↑m.length : Int) ∧ ((↑i : Int).toNat + 1) * 2 ≤ (zcs m).length) ∧ ((List.drop ((↑i : Int).toNat * 2) (zcs m))[0]? = some (D.int IntKind.i64 y.sign) ∧ (List.drop ((↑i : Int).toNat * 2) (zcs m))[1]? = some (ib (db 2 y.natAbs))) ∧ Fn Try.prog 60 [V.agg [D.int IntKind.i64 x.sign, ib (db 2 x.natAbs)], V.agg [D.int IntKind.i64 y.sign, ib (db 2 y.natAbs)]] [] (V.d (D.int IntKind.i64 (cmpZ x y))) [] ∧ K (St.mk [(0, V.d (zl l)), (1, V.d (zl m)), (5, V.d (D.int IntKind.i64 (↑i : Int))), (26, V.d (D.bool (cmpZ x y != (0 : Int))))] [] 14)) (fun K => by kernel_rfl) ?_
      refine ⟨⟨by omega, by omega, by simp; omega⟩, by rw [zcs_drop hx]; exact ⟨rfl, rfl⟩, ⟨by omega, by omega, by simp; omega⟩, by rw [zcs_drop hy]; exact ⟨rfl, rfl⟩, hc, awp_cond rfl (fun e2 => ?_) (fun e2 => awp_skip (hK2 _ ?_))⟩
      · simp [cmpZ_zero] at e2
        refine awp_sx prog_ok hP hnt [] [] [] [4] (by kernel_rfl) (G := fun K => K (St.mk [(4, V.d (D.bool false))] [] 15)) (fun K => by kernel_rfl) ?_
        refine awp_ret ⟨.inl rfl, retD ?_⟩
        rw [decide_eq_false (fun h => e2 (by rw [h, hy] at hx; cases hx; rfl))]; rfl
      · simp [cmpZ_zero] at e2
        refine awp_x prog_ok hP hnt [(16, .int .i64 (i + 1 : Nat))] [] [] [0, 1, 5] (by kernel_rfl) (G := fun K => IntKind.i64.wrap ((↑i : Int) + (1 : Int)) = (↑(i + 1) : Int) ∧ K (St.mk [(0, V.d (zl l)), (1, V.d (zl m)), (5, V.d (D.int IntKind.i64 (↑(i + 1) : Int)))] [] 17)) (fun K => by kernel_rfl) ?_
        refine ⟨by rw [w64] <;> omega, i + 1, [], ⟨⟨by omega, fun k hk => ?_⟩, by omega⟩, ?_⟩
        · by_cases h : k = i
          · subst h; rw [hx, hy, e2]
          · exact hz k (by omega)
        · (constructor <;> simp [hl, envOk, memOk, conv, St.get, St.blk])
    · simp at e
      apply List.ext_getElem?
      intro k
      by_cases hk : k < l.length
      · exact hz k (by omega)
      · rw [List.getElem?_eq_none (by omega), List.getElem?_eq_none (by omega)]
    · (constructor <;> simp [hl, envOk, memOk, conv, St.get, St.blk])
  intro _ h
  refine awp_sx prog_ok hP hnt [] [] [] [4] (by kernel_rfl) (G := fun K => K (St.mk [(4, V.d (D.bool true))] [] 1)) (fun K => by kernel_rfl) ?_
  refine awp_ret ⟨.inl rfl, retD ?_⟩
  rw [decide_eq_true h]; rfl

theorem rc_drop0 {ps : List RI} {i : Nat} {p : RI} (h : ps[i]? = some p) : (rc ps).drop (((i : Nat) : Int).toNat * 2) = .bool p.1 :: du p.2 :: rc (ps.drop (i + 1)) := by rw [Int.toNat_natCast]; exact rc_at h

theorem lof_fn (ps : List RI) (hp : ∀ p ∈ ps, Dg p.2 ∧ p.2.length ≤ 2 ^ 34) (hn : ps.length ≤ 2 ^ 39) : Fn Try.prog 40 [.d (rp ps)] [] (.d (zl (cs (pol ps)))) [] := by
  refine fn0 (nt := 27) (res := [.tmp 2]) Try.func40 rfl (by decide) rfl rfl rfl rfl ?_
  intro Cx hP hnt hl
  obtain ⟨f, hf⟩ : ∃ f, f = pol ps := ⟨_, rfl⟩
  have hfc : ∀ k, f.c k = co ps k := fun k => by rw [hf]; rfl
  have hfz : ∀ k, ps.length ≤ k → f.c k = 0 := fun k hk => by rw [hfc]; exact co_beyond hk
  rw [← hf]
  refine awp_sx prog_ok hP hnt [] [] [] [0] (by kernel_rfl) (G := fun K => K (St.mk [(0, V.d (rp ps))] [] 1)) (fun K => by kernel_rfl) ?_
  refine awp_sx prog_ok hP hnt [] [] [] [0, 3] (by kernel_rfl) (G := fun K => K (St.mk [(0, V.d (rp ps)), (3, V.nil)] [] 2)) (fun K => by kernel_rfl) ?_
  refine awp_cut (ι := Unit) (fun _ => ⟨[(3, .own 0 0 ps.length 2)], [(0, some ⟨zcs (tb f.c ps.length), true⟩)], 1⟩) (fun _ => True) ?_ ?_
  · refine awp_sx prog_ok hP hnt [] [] [] [0, 3, 4] (by kernel_rfl) (G := fun K => K (St.mk [(0, V.d (rp ps)), (3, V.nil), (4, V.d (D.int IntKind.i64 (0 : Int)))] [] 3)) (fun K => by kernel_rfl) ?_
    refine awp_block ?_
    refine awp_loop (ι := Nat) (fun i => ⟨[(0, .d (rp ps)), (3, .own 0 0 i 2), (4, .d (.int .i64 i))], [(0, some ⟨zcs (tb f.c i), true⟩)], 1⟩)
      (fun i => i ≤ ps.length) (fun i => ps.length - i) 0 [] (by simp) ?_ ?_
    · (constructor <;> simp [hl, envOk, memOk, conv, St.get, St.blk, zcs, fm, tb])
    intro i hi
    refine awp_seq_k fun K hK => ?_
    refine awp_sx prog_ok hP hnt [] [] [] [0, 3, 4, 8] (by kernel_rfl) (G := fun K => K (St.mk [(0, V.d (rp ps)), (3, V.own 0 0 i 2), (4, V.d (D.int IntKind.i64 (↑i : Int))), (8, V.d (D.bool (decide ((↑i : Int) < (↑ps.length : Int)))))] [(0, some (Blk.mk (zcs (tb f.c i)) true))] 5)) (fun K => by kernel_rfl) ?_
    refine awp_cond rfl (fun e => awp_skip (hK _ ?_)) (fun e => awp_exit ⟨(), [(0, 0)], trivial, ?_⟩)
    · simp at e
      obtain ⟨p, hp1⟩ := get_ex (l := ps) (i := i) e
      have hp2 := hp p (List.mem_of_getElem? hp1)
      have hfx : ival p.1 p.2 = f.c i := by rw [hfc, co_some hp1]; rfl
      refine awp_seq_k fun K2 hK2 => ?_
      refine awp_block ?_
      have h3 := zof_fn p.1 p.2 hp2.1 hp2.2
      rw [hfx] at h3
      refine awp_x prog_ok hP hnt [] [.val (.agg (zc (f.c i)))] [some [.bool p.1], some [du p.2]] [0, 3, 4] (by kernel_rfl) (G := fun K => ((0 : Int) ≤ (↑i : Int) ∧ (↑i : Int) < (↑ps.length : Int) ∧ ((↑i : Int).toNat + 1) * 2 ≤ (rc ps).length) ∧ (List.drop 0 (List.drop ((↑i : Int).toNat * 2) (rc ps)))[0]? = some (D.bool p.fst) ∧ ((0 : Int) ≤ (↑i : Int) ∧ (↑i : Int) < (↑ps.length : Int) ∧ ((↑i : Int).toNat + 1) * 2 ≤ (rc ps).length) ∧ (List.drop 1 (List.drop ((↑i : Int).toNat * 2) (rc ps)))[0]? = some (du p.snd) ∧ Fn Try.prog 159 [V.d (D.bool p.fst), V.d (du p.snd)] [] (V.agg [D.int IntKind.i64 (f.c i).sign, ib (db 2 (f.c i).natAbs)]) [] ∧ 2 = 2 ∧ ((zcs (tb f.c i)).length = i * 2 ∧ (i + 1) * 32 ≤ 2 ^ 47) ∧ K (St.mk [(0, V.d (rp ps)), (3, V.own 18 0 (i + 1) 2), (4, V.d (D.int IntKind.i64 (↑i : Int)))] [(0, none), (18, some (Blk.mk (zcs (tb f.c i) ++ setCells (zeros 1 (TI.mk (Kind.struct [(0, 1), (1, 1)]) 2 32 [D.int IntKind.i64 (0 : Int), D.lst 0 []]).zero) 0 (zc (f.c i))) true))] 20)) (fun K => by kernel_rfl) ?_
      have happ := zcs_app (tb f.c i) (f.c i)
      rw [tb_snoc] at happ
      refine ⟨⟨by omega, by omega, by simp; omega⟩, by rw [rc_drop0 hp1]; rfl, ⟨by omega, by omega, by simp; omega⟩, by rw [rc_drop0 hp1]; rfl, h3, rfl, ⟨by simp, by omega⟩, hK2 _ ?_⟩
      refine awp_x prog_ok hP hnt [(10, .int .i64 (i + 1 : Nat))] [] [] [0, 3, 4] (by kernel_rfl) (G := fun K => IntKind.i64.wrap ((↑i : Int) + (1 : Int)) = (↑(i + 1) : Int) ∧ K (St.mk [(0, V.d (rp ps)), (3, V.own 18 0 (i + 1) 2), (4, V.d (D.int IntKind.i64 (↑(i + 1) : Int)))] [(0, none), (18, some (Blk.mk (zcs (tb f.c i) ++ setCells (zeros 1 (TI.mk (Kind.struct [(0, 1), (1, 1)]) 2 32 [D.int IntKind.i64 (0 : Int), D.lst 0 []]).zero) 0 (zc (f.c i))) true))] 23)) (fun K => by kernel_rfl) ?_
      refine ⟨by rw [w64] <;> omega, i + 1, [(0, 18)], ⟨by omega, by omega⟩, ?_⟩
      (constructor <;> simp [hl, envOk, memOk, conv, St.get, St.blk, ← happ, setCells, zeros, zc])
    · simp at e
      have : i = ps.length := by omega
      subst this
      (constructor <;> simp [hl, envOk, memOk, conv, St.get, St.blk])
  intro _ _
  have ht := ztrim_fn (tb f.c ps.length) (by simp; omega)
  rw [polL_tb hfz] at ht
  refine awp_sx prog_ok hP hnt [] [.val (.d (zl (cs f)))] [] [2] (by kernel_rfl) (G := fun K => Fn Try.prog 55 [V.d (D.lst ps.length (List.take (ps.length * 2) (List.drop 0 (zcs (tb f.c ps.length)))))] [] (V.d (zl (cs f))) [] ∧ K (St.mk [(2, V.d (zl (cs f)))] [(0, some (Blk.mk (zcs (tb f.c ps.length)) false))] 4)) (fun K => by kernel_rfl) ?_
  refine ⟨?_, awp_ret ⟨.inl rfl, retD rfl⟩⟩
  have := own_fm zc_len (l := tb f.c ps.length) (n := ps.length) (by simp)
  rw [this]
  exact ht

theorem lis_fn (ps : List RI) (g : Poly) (hp : ∀ p ∈ ps, p.2.length ≤ 2 ^ 40) (hn : ps.length ≤ 2 ^ 39) {K : Nat} (hK : K ≤ 2 ^ 40) (hg : ∀ k, (g.c k).natAbs < 2 ^ K) : Fn Try.prog 43 [.d (rp ps), .d (zl (cs g))] [] (.d (.bool (decide (ps = cp g)))) [] := by
  refine fn0 (nt := 33) (res := [.tmp 4]) Try.func43 rfl (by decide) rfl rfl rfl rfl ?_
  intro Cx hP hnt hl
  refine awp_sx prog_ok hP hnt [] [] [] [0, 1] (by kernel_rfl) (G := fun K => K (St.mk [(0, V.d (rp ps)), (1, V.d (zl (cs g)))] [] 1)) (fun K => by kernel_rfl) ?_
  refine awp_seq_k fun K hK => ?_
  refine awp_sx prog_ok hP hnt [] [] [] [0, 1, 10] (by kernel_rfl) (G := fun K => K (St.mk [(0, V.d (rp ps)), (1, V.d (zl (cs g))), (10, V.d (D.bool ((↑ps.length : Int) != (↑(cs g).length : Int))))] [] 6)) (fun K => by kernel_rfl) ?_
  refine awp_cond rfl (fun e => ?_) (fun e => awp_skip (hK _ ?_))
  · simp at e
    refine awp_sx prog_ok hP hnt [] [] [] [4] (by kernel_rfl) (G := fun K => K (St.mk [(4, V.d (D.bool false))] [] 7)) (fun K => by kernel_rfl) ?_
    refine awp_ret ⟨.inl rfl, retD ?_⟩
    rw [decide_eq_false (fun h => e (by rw [h]; simp))]; rfl
  simp at e
  refine awp_cut (ι := Unit) (fun _ => ⟨[], [], 0⟩) (fun _ => ps = cp g) ?_ ?_
  · refine awp_sx prog_ok hP hnt [] [] [] [0, 1, 5] (by kernel_rfl) (G := fun K => K (St.mk [(0, V.d (rp ps)), (1, V.d (zl (cs g))), (5, V.d (D.int IntKind.i64 (0 : Int)))] [] 7)) (fun K => by kernel_rfl) ?_
    refine awp_block ?_
    refine awp_loop (ι := Nat) (fun i => ⟨[(0, .d (rp ps)), (1, .d (zl (cs g))), (5, .d (.int .i64 i))], [], 0⟩)
      (fun i => i ≤ ps.length ∧ ∀ k, k < i → ps[k]? = (cp g)[k]?) (fun i => ps.length - i) 0 [] ⟨by simp, by simp⟩ ?_ ?_
    · (constructor <;> simp [hl, envOk, memOk, conv, St.get, St.blk])
    intro i ⟨hi, hz⟩
    refine awp_seq_k fun K hK => ?_
    refine awp_sx prog_ok hP hnt [] [] [] [0, 1, 5, 14] (by kernel_rfl) (G := fun K => K (St.mk [(0, V.d (rp ps)), (1, V.d (zl (cs g))), (5, V.d (D.int IntKind.i64 (↑i : Int))), (14, V.d (D.bool (decide ((↑i : Int) < (↑ps.length : Int)))))] [] 4)) (fun K => by kernel_rfl) ?_
    refine awp_cond rfl (fun e => awp_skip (hK _ ?_)) (fun e => awp_exit ⟨(), [], ?_, ?_⟩)
    · simp at e
      obtain ⟨p, hp1⟩ := get_ex (l := ps) (i := i) e
      have hx := cs_get g i (by omega)
      have hx2 := cp_get g (k := i) (by omega)
      refine awp_seq_k fun K2 hK2 => ?_
      refine awp_block ?_
      have h3 := zis_fn p.1 p.2 (g.c i) (hp p (List.mem_of_getElem? hp1)) (by assumption) (hg i)
      refine awp_sx prog_ok hP hnt [] [.val (.d (.bool (decide ((p.1, p.2) = riz (g.c i)))))] [some [.bool p.1], some [du p.2], some (zc (g.c i))] [0, 1, 5, 32] (by kernel_rfl) (G := fun K => ((0 : Int) ≤ (↑i : Int) ∧ (↑i : Int) < (↑ps.length : Int) ∧ ((↑i : Int).toNat + 1) * 2 ≤ (rc ps).length) ∧ (List.drop 0 (List.drop ((↑i : Int).toNat * 2) (rc ps)))[0]? = some (D.bool p.fst) ∧ ((0 : Int) ≤ (↑i : Int) ∧ (↑i : Int) < (↑ps.length : Int) ∧ ((↑i : Int).toNat + 1) * 2 ≤ (rc ps).length) ∧ (List.drop 1 (List.drop ((↑i : Int).toNat * 2) (rc ps)))[0]? = some (du p.snd) ∧ ((0 : Int) ≤ (↑i : Int) ∧ (↑i : Int) < (↑(cs g).length : Int) ∧ ((↑i : Int).toNat + 1) * 2 ≤ (zcs (cs g)).length) ∧ ((List.drop ((↑i : Int).toNat * 2) (zcs (cs g)))[0]? = some (D.int IntKind.i64 (g.c i).sign) ∧ (List.drop ((↑i : Int).toNat * 2) (zcs (cs g)))[1]? = some (ib (db 2 (g.c i).natAbs))) ∧ Fn Try.prog 69 [V.d (D.bool p.fst), V.d (du p.snd), V.agg [D.int IntKind.i64 (g.c i).sign, ib (db 2 (g.c i).natAbs)]] [] (V.d (D.bool (decide ((p.fst, p.snd) = riz (g.c i))))) [] ∧ K (St.mk [(0, V.d (rp ps)), (1, V.d (zl (cs g))), (5, V.d (D.int IntKind.i64 (↑i : Int))), (32, V.d (D.bool !decide ((p.fst, p.snd) = riz (g.c i))))] [] 20)) (fun K => by kernel_rfl) ?_
      refine ⟨⟨by omega, by omega, by simp; omega⟩, by rw [rc_drop0 hp1]; rfl, ⟨by omega, by omega, by simp; omega⟩, by rw [rc_drop0 hp1]; rfl, ⟨by omega, by simp; omega, by simp; omega⟩, by rw [zcs_drop hx]; exact ⟨rfl, rfl⟩, h3, awp_cond rfl (fun e2 => ?_) (fun e2 => awp_skip (hK2 _ ?_))⟩
      · simp at e2
        refine awp_sx prog_ok hP hnt [] [] [] [4] (by kernel_rfl) (G := fun K => K (St.mk [(4, V.d (D.bool false))] [] 21)) (fun K => by kernel_rfl) ?_
        refine awp_ret ⟨.inl rfl, retD ?_⟩
        rw [decide_eq_false (fun h => e2 (by rw [h, hx2] at hp1; cases hp1; rfl))]; rfl
      · simp at e2
        refine awp_x prog_ok hP hnt [(16, .int .i64 (i + 1 : Nat))] [] [] [0, 1, 5] (by kernel_rfl) (G := fun K => IntKind.i64.wrap ((↑i : Int) + (1 : Int)) = (↑(i + 1) : Int) ∧ K (St.mk [(0, V.d (rp ps)), (1, V.d (zl (cs g))), (5, V.d (D.int IntKind.i64 (↑(i + 1) : Int)))] [] 23)) (fun K => by kernel_rfl) ?_
        refine ⟨by rw [w64] <;> omega, i + 1, [], ⟨⟨by omega, fun k hk => ?_⟩, by omega⟩, ?_⟩
        · by_cases h : k = i
          · subst h; rw [hp1, hx2, ← e2]
          · exact hz k (by omega)
        · (constructor <;> simp [hl, envOk, memOk, conv, St.get, St.blk])
    · simp at e
      apply List.ext_getElem?
      intro k
      by_cases hk : k < ps.length
      · exact hz k (by omega)
      · rw [List.getElem?_eq_none (by omega), List.getElem?_eq_none (by simp; omega)]
    · (constructor <;> simp [hl, envOk, memOk, conv, St.get, St.blk])
  intro _ h
  refine awp_sx prog_ok hP hnt [] [] [] [4] (by kernel_rfl) (G := fun K => K (St.mk [(4, V.d (D.bool true))] [] 1)) (fun K => by kernel_rfl) ?_
  refine awp_ret ⟨.inl rfl, retD ?_⟩
  rw [decide_eq_true h]; rfl

theorem rtrim_cp (ps : List RI) (k : Nat) : (rtrim ps)[k]? = if k < (pol ps).sz then ps[k]? else none := by
  unfold rtrim
  rw [List.getElem?_take, ← rtrim_len, rtrim_lenp]
theorem normP {i : Nat} {ps : List RI} (hi : i ≤ 12) (hp : W i ps) : Fn Try.prog 63 [.d (rp ps)] [] (.d (rp (cp (pol ps)))) [] := by
  refine fn0 (nt := 25) (res := [.tmp 2]) Try.func63 rfl (by decide) rfl rfl rfl rfl ?_
  intro Cx hP hnt hl
  have h2 := lim2 hi
  have h4 := lim4 hi
  have hln := hp.len
  obtain ⟨f, hf⟩ : ∃ f, f = pol ps := ⟨_, rfl⟩
  have hfs : f.sz ≤ ps.length := hf ▸ pol_sz ps
  have ht := utrim_fn ps (by omega) (pok_mono (by omega) hp.ok)
  have htl : (rtrim ps).length = f.sz := by rw [rtrim_lenp, hf]
  rw [← hf]
  refine awp_sx prog_ok hP hnt [] [] [] [0] (by kernel_rfl) (G := fun K => K (St.mk [(0, V.d (rp ps))] [] 1)) (fun K => by kernel_rfl) ?_
  refine awp_sx prog_ok hP hnt [(7, .int .i64 f.sz)] [.val (.d (rp (rtrim ps)))] [] [0, 3] (by kernel_rfl) (G := fun K => Fn Try.prog 161 [V.d (rp ps)] [] (V.d (rp (rtrim ps))) [] ∧ (↑(rtrim ps).length : Int) = (↑f.sz : Int) ∧ ((↑f.sz : Int) = (↑f.sz : Int) ∧ (0 : Int) ≤ (↑f.sz : Int) ∧ (↑f.sz : Int) * (↑32 : Int) ≤ (2 : Int) ^ 47) ∧ K (St.mk [(0, V.d (rp ps)), (3, V.own 4 0 (↑f.sz : Int).toNat 2)] [(4, some (Blk.mk (zeros (↑f.sz : Int).toNat (TI.mk (Kind.struct [(0, 1), (1, 1)]) 2 32 [D.bool false, D.lst 0 []]).zero) true))] 6)) (fun K => by kernel_rfl) ?_
  refine ⟨ht, by rw [htl], by omega, ?_⟩
  refine awp_cut (ι := Unit) (fun _ => ⟨[(3, .own 0 0 f.sz 2)], [(0, some ⟨rc (mz f.c f.sz), true⟩)], 1⟩) (fun _ => True) ?_ ?_
  · refine awp_sx prog_ok hP hnt [] [] [] [0, 3, 10, 11] (by kernel_rfl) (G := fun K => K (St.mk [(0, V.d (rp ps)), (3, V.own 4 0 (↑f.sz : Int).toNat 2), (10, V.d (D.int IntKind.i64 (↑(↑f.sz : Int).toNat : Int))), (11, V.d (D.int IntKind.i64 (0 : Int)))] [(4, some (Blk.mk (zeros (↑f.sz : Int).toNat (TI.mk (Kind.struct [(0, 1), (1, 1)]) 2 32 [D.bool false, D.lst 0 []]).zero) true))] 9)) (fun K => by kernel_rfl) ?_
    refine awp_block ?_
    refine awp_loop (ι := Nat) (fun i => ⟨[(0, .d (rp ps)), (3, .own 0 0 f.sz 2), (10, .d (.int .i64 f.sz)), (11, .d (.int .i64 i))], [(0, some ⟨rc (mz (part f.c i) f.sz), true⟩)], 1⟩)
      (fun i => i ≤ f.sz) (fun i => f.sz - i) 0 [(0, 4)] (by simp) ?_ ?_
    · rw [Int.toNat_natCast]
      (constructor <;> simp [hl, envOk, memOk, conv, St.get, St.blk, zeros_rc, part_zero])
    intro i hi
    refine awp_sx prog_ok hP hnt [] [] [] [0, 3, 10, 11, 12] (by kernel_rfl) (G := fun K => K (St.mk [(0, V.d (rp ps)), (3, V.own 0 0 f.sz 2), (10, V.d (D.int IntKind.i64 (↑f.sz : Int))), (11, V.d (D.int IntKind.i64 (↑i : Int))), (12, V.d (D.bool (decide ((↑i : Int) < (↑f.sz : Int)))))] [(0, some (Blk.mk (rc (mz (part f.c i) f.sz)) true))] 2)) (fun K => by kernel_rfl) ?_
    refine awp_seq_k fun K1 hK1 => ?_
    refine awp_cond rfl (fun e => awp_skip (hK1 _ ?_)) (fun e => awp_exit ⟨(), [(0, 0)], trivial, ?_⟩)
    · simp at e
      obtain ⟨p, hp1⟩ := get_ex (l := ps) (i := i) (by omega)
      have hpo := hp.ok p (List.mem_of_getElem? hp1)
      have hfx : ival p.1 p.2 = f.c i := by rw [hf, pol_c, co_some hp1]; rfl
      have h3 := inorm_fn p.1 p.2 (by have := hpo.2; omega) hpo.1
      rw [hfx] at h3
      refine awp_seq_k fun K2 hK2 => ?_
      refine awp_block ?_
      refine awp_sx prog_ok hP hnt [] [] [] [0, 3, 4, 10, 11] (by kernel_rfl) (G := fun K => K (St.mk [(0, V.d (rp ps)), (3, V.own 0 0 f.sz 2), (10, V.d (D.int IntKind.i64 (↑f.sz : Int))), (11, V.d (D.int IntKind.i64 (↑i : Int))), (4, V.d (D.int IntKind.i64 (↑i : Int)))] [(0, some (Blk.mk (rc (mz (part f.c i) f.sz)) true))] 4)) (fun K => by kernel_rfl) ?_
      refine awp_x prog_ok hP hnt [] [.val (.agg (iz (f.c i)))] [some [.bool p.1, du p.2]] [0, 3, 10, 11] (by kernel_rfl) (G := fun K => ((0 : Int) ≤ (↑i : Int) ∧ (↑i : Int) < (↑ps.length : Int) ∧ ((↑i : Int).toNat + 1) * 2 ≤ (rc ps).length) ∧ ((List.drop ((↑i : Int).toNat * 2) (rc ps))[0]? = some (D.bool p.fst) ∧ (List.drop ((↑i : Int).toNat * 2) (rc ps))[1]? = some (du p.snd)) ∧ Fn Try.prog 165 [V.agg [D.bool p.fst, du p.snd]] [] (V.agg [D.bool (decide (f.c i < (0 : Int))), du (dig (f.c i).natAbs)]) [] ∧ ((0 : Int) ≤ (↑i : Int) ∧ (↑i : Int) < (↑f.sz : Int)) ∧ 0 + (↑i : Int).toNat * 2 + (iz (f.c i)).length ≤ (rc (mz (part f.c i) f.sz)).length ∧ K (St.mk [(0, V.d (rp ps)), (3, V.own 0 0 f.sz 2), (10, V.d (D.int IntKind.i64 (↑f.sz : Int))), (11, V.d (D.int IntKind.i64 (↑i : Int)))] [(0, some (Blk.mk (setCells (rc (mz (part f.c i) f.sz)) (0 + (↑i : Int).toNat * 2) (iz (f.c i))) true))] 13)) (fun K => by kernel_rfl) ?_
      have hsc := setCells_rc (mz (part f.c i) f.sz) i (riz (f.c i))
      rw [part_set, ic_riz] at hsc
      refine ⟨⟨by omega, by omega, by simp; omega⟩, by rw [rc_drop0 hp1]; exact ⟨rfl, rfl⟩, h3, ⟨by omega, by omega⟩, ?_, hK2 _ ?_⟩
      · rw [rc_len, mz_len, Int.toNat_natCast, Nat.zero_add]; show i * 2 + 2 ≤ f.sz * 2; omega
      refine awp_x prog_ok hP hnt [(22, .int .i64 (i + 1 : Nat))] [] [] [0, 3, 10, 11] (by kernel_rfl) (G := fun K => IntKind.i64.wrap ((↑i : Int) + (1 : Int)) = (↑(i + 1) : Int) ∧ K (St.mk [(0, V.d (rp ps)), (3, V.own 0 0 f.sz 2), (10, V.d (D.int IntKind.i64 (↑f.sz : Int))), (11, V.d (D.int IntKind.i64 (↑(i + 1) : Int)))] [(0, some (Blk.mk (setCells (rc (mz (part f.c i) f.sz)) (0 + (↑i : Int).toNat * 2) (iz (f.c i))) true))] 15)) (fun K => by kernel_rfl) ?_
      refine ⟨by rw [w64] <;> omega, i + 1, [(0, 0)], ⟨by omega, by omega⟩, ?_⟩
      rw [Int.toNat_natCast, Nat.zero_add, hsc]
      (constructor <;> simp [hl, envOk, memOk, conv, St.get, St.blk])
    · simp at e
      have : i = f.sz := by omega
      subst this
      (constructor <;> simp [hl, envOk, memOk, conv, St.get, St.blk, part_all])
  intro _ _
  have hlv : Lv _ f := hf ▸ hp.lv
  have ht2 := utrim_fn (mz f.c f.sz) (by simp; omega) (pok_mono (by omega) (mz_ok hlv.ok))
  rw [rtrim_mz, can_eq (f := f) (fun _ => rfl) (Nat.le_refl _)] at ht2
  refine awp_sx prog_ok hP hnt [] [.val (.d (rp (cp f)))] [] [2] (by kernel_rfl) (G := fun K => Fn Try.prog 161 [V.d (D.lst f.sz (List.take (f.sz * 2) (List.drop 0 (rc (mz f.c f.sz)))))] [] (V.d (rp (cp f))) [] ∧ K (St.mk [(2, V.d (rp (cp f)))] [(0, some (Blk.mk (rc (mz f.c f.sz)) false))] 4)) (fun K => by kernel_rfl) ?_
  refine ⟨?_, awp_ret ⟨.inl rfl, retD rfl⟩⟩
  rw [own_rp (by simp)]
  exact ht2
end Go.Abs

set_option linter.unusedVariables false
set_option linter.unusedSimpArgs false
namespace Go.Abs
open Go Go.Proofs
set_option maxRecDepth 100000

namespace Poly
theorem sz_der (f : Poly) : f.der.sz = f.sz - 1 := by
  by_cases h : f.sz ≤ 1
  · have := sz_le (f := f.der) (n := 0) fun k _ => by show ((k + 1 : Nat) : Int) * f.c (k + 1) = 0; rw [above (by omega)]; simp
    omega
  · have := sz_eq (f := f.der) (n := f.sz - 2) (by
      show ((f.sz - 2 + 1 : Nat) : Int) * f.c (f.sz - 2 + 1) ≠ 0
      rw [show f.sz - 2 + 1 = f.sz - 1 by omega]
      exact Int.mul_ne_zero (by omega) (last (by omega))) (fun k hk => by show ((k + 1 : Nat) : Int) * f.c (k + 1) = 0; rw [above (by omega)]; simp)
    omega
theorem der_c (f : Poly) (k : Nat) : f.der.c k = (k + 1 : Nat) * f.c (k + 1) := rfl
noncomputable def ppow (f : Poly) : Nat → Poly
  | 0 => 1
  | n + 1 => ppow f n * f
@[simp] theorem ev_ppow (f : Poly) (x : Int) : ∀ n, (ppow f n).ev x = f.ev x ^ n
  | 0 => by simp [ppow]
  | n + 1 => by simp [ppow, ev_ppow f x n, Int.pow_succ]
theorem ppow_add (f : Poly) (a b : Nat) : ppow f (a + b) = ppow f a * ppow f b := ext_ev fun x _ => by simp [Int.pow_add]
end Poly
theorem Lv.der {i : Nat} {f : Poly} (hi : i ≤ 12) (h : Lv i f) : Lv (i + 1) f.der := by
  have h2 := lim2 hi
  have hl := h.len
  refine ⟨by rw [Poly.sz_der, Nat.pow_succ]; omega, fun k => ?_⟩
  rw [Poly.der_c]
  by_cases hk : k + 1 < f.sz
  · rw [Int.natAbs_mul]
    have h1 := h.ok (k + 1)
    have h3 : ((k + 1 : Nat) : Int).natAbs * (f.c (k + 1)).natAbs ≤ 4294967296 * (f.c (k + 1)).natAbs := Nat.mul_le_mul_right _ (by omega)
    have h4 : 4294967296 * (f.c (k + 1)).natAbs < 4294967296 * 4294967296 ^ (40 * 4 ^ i) := Nat.mul_lt_mul_of_pos_left h1 (by omega)
    have h5 : 4294967296 * 4294967296 ^ (40 * 4 ^ i) = 4294967296 ^ (40 * 4 ^ i + 1) := by rw [Nat.pow_succ, Nat.mul_comm]
    refine Nat.lt_of_lt_of_le (Nat.lt_of_le_of_lt h3 (h5 ▸ h4)) (Nat.pow_le_pow_right (by omega) ?_)
    have := Nat.pow_pos (n := i) (a := 4) (by omega)
    rw [Nat.pow_succ]; omega
  · rw [Poly.above (by omega)]; simp; exact Nat.pow_pos (by omega)
theorem lv_one : Lv 0 (1 : Poly) := ⟨by rw [show (1 : Poly) = Poly.C 1 from rfl, Poly.sz_C (by decide)]; omega, fun k => by
  show (if k = 0 then (1 : Int) else 0).natAbs < _
  split <;> decide +kernel⟩
theorem polL_one : polL [1] = 1 := Poly.ext_c fun k => by
  cases k with
  | zero => rfl
  | succ k => rw [polL_c]; simp; rfl
theorem andOne (n : Nat) (h : n ≤ 9223372036854775807) : IntKind.i64.wrap ((BitVec.ofInt 64 (n : Int) &&& BitVec.ofInt 64 1).toNat : Int) = ((n % 2 : Nat) : Int) := by
  rw [BitVec.toNat_and, BitVec.toNat_ofInt, BitVec.toNat_ofInt]
  have e1 : ((n : Int) % ((2 ^ 64 : Nat) : Int)).toNat = n := by omega
  have e2 : ((1 : Int) % ((2 ^ 64 : Nat) : Int)).toNat = 1 := by decide
  rw [e1, e2, Nat.and_one_is_mod]
  exact i64nat (by omega)

theorem derP {i : Nat} {ps : List RI} (hi : i ≤ 12) (hp : W i ps) : Fn Try.prog 46 [.d (rp ps)] [] (.d (rp (cp (pol ps).der))) [] := by
  refine fn0 (nt := 33) (res := [.tmp 2]) Try.func46 rfl (by decide) rfl rfl rfl rfl ?_
  intro Cx hP hnt hl
  have h2 := lim2 hi
  have h4 := lim4 hi
  have hln := hp.len
  obtain ⟨f, hf⟩ : ∃ f, f = pol ps := ⟨_, rfl⟩
  have hfs : f.sz ≤ ps.length := hf ▸ pol_sz ps
  have ht := utrim_fn ps (by omega) (pok_mono (by omega) hp.ok)
  have htl : (rtrim ps).length = f.sz := by rw [rtrim_lenp, hf]
  have htg := fun k => rtrim_cp ps k
  rw [← hf] at htg
  rw [← hf]
  have hds := Poly.sz_der f
  refine awp_sx prog_ok hP hnt [] [] [] [0] (by kernel_rfl) (G := fun K => K (St.mk [(0, V.d (rp ps))] [] 1)) (fun K => by kernel_rfl) ?_
  refine awp_sx prog_ok hP hnt [] [.val (.d (rp (rtrim ps)))] [] [0] (by kernel_rfl) (G := fun K => Fn Try.prog 161 [V.d (rp ps)] [] (V.d (rp (rtrim ps))) [] ∧ K (St.mk [(0, V.d (rp (rtrim ps)))] [] 4)) (fun K => by kernel_rfl) ?_
  refine ⟨ht, ?_⟩
  refine awp_seq_k fun K hK => ?_
  refine awp_sx prog_ok hP hnt [] [] [] [0, 9] (by kernel_rfl) (G := fun K => K (St.mk [(0, V.d (rp (rtrim ps))), (9, V.d (D.bool (decide ((↑(rtrim ps).length : Int) < (2 : Int)))))] [] 7)) (fun K => by kernel_rfl) ?_
  refine awp_cond rfl (fun e => ?_) (fun e => awp_skip (hK _ ?_))
  · simp [htl] at e
    refine awp_sx prog_ok hP hnt [] [] [] [2] (by kernel_rfl) (G := fun K => K (St.mk [(2, V.nil)] [] 8)) (fun K => by kernel_rfl) ?_
    refine awp_ret ⟨.inl rfl, ?_⟩
    have : f.der = 0 := Poly.eq_zero.2 (by omega)
    rw [this, cp_zero]
    exact retNil rfl
  simp [htl] at e
  refine awp_sx prog_ok hP hnt [(12, .int .i64 f.der.sz)] [] [] [0, 3] (by kernel_rfl) (G := fun K => IntKind.i64.wrap ((↑(rtrim ps).length : Int) - (1 : Int)) = (↑f.der.sz : Int) ∧ ((↑f.der.sz : Int) = (↑f.der.sz : Int) ∧ (0 : Int) ≤ (↑f.der.sz : Int) ∧ (↑f.der.sz : Int) * (↑32 : Int) ≤ (2 : Int) ^ 47) ∧ K (St.mk [(0, V.d (rp (rtrim ps))), (3, V.own 10 0 (↑f.der.sz : Int).toNat 2)] [(10, some (Blk.mk (zeros (↑f.der.sz : Int).toNat (TI.mk (Kind.struct [(0, 1), (1, 1)]) 2 32 [D.bool false, D.lst 0 []]).zero) true))] 12)) (fun K => by kernel_rfl) ?_
  refine ⟨by rw [htl, w64] <;> omega, by omega, ?_⟩
  refine awp_cut (ι := Unit) (fun _ => ⟨[(3, .own 0 0 f.der.sz 2)], [(0, some ⟨rc (mz f.der.c f.der.sz), true⟩)], 1⟩) (fun _ => True) ?_ ?_
  · refine awp_sx prog_ok hP hnt [] [] [] [0, 3, 15, 16] (by kernel_rfl) (G := fun K => K (St.mk [(0, V.d (rp (rtrim ps))), (3, V.own 10 0 (↑f.der.sz : Int).toNat 2), (15, V.d (D.int IntKind.i64 (↑(↑f.der.sz : Int).toNat : Int))), (16, V.d (D.int IntKind.i64 (0 : Int)))] [(10, some (Blk.mk (zeros (↑f.der.sz : Int).toNat (TI.mk (Kind.struct [(0, 1), (1, 1)]) 2 32 [D.bool false, D.lst 0 []]).zero) true))] 15)) (fun K => by kernel_rfl) ?_
    refine awp_block ?_
    refine awp_loop (ι := Nat) (fun i => ⟨[(0, .d (rp (rtrim ps))), (3, .own 0 0 f.der.sz 2), (15, .d (.int .i64 f.der.sz)), (16, .d (.int .i64 i))], [(0, some ⟨rc (mz (part f.der.c i) f.der.sz), true⟩)], 1⟩)
      (fun i => i ≤ f.der.sz) (fun i => f.der.sz - i) 0 [(0, 10)] (by simp) ?_ ?_
    · rw [Int.toNat_natCast]
      (constructor <;> simp [hl, envOk, memOk, conv, St.get, St.blk, zeros_rc, part_zero])
    intro i hi
    refine awp_sx prog_ok hP hnt [] [] [] [0, 3, 15, 16, 17] (by kernel_rfl) (G := fun K => K (St.mk [(0, V.d (rp (rtrim ps))), (3, V.own 0 0 f.der.sz 2), (15, V.d (D.int IntKind.i64 (↑f.der.sz : Int))), (16, V.d (D.int IntKind.i64 (↑i : Int))), (17, V.d (D.bool (decide ((↑i : Int) < (↑f.der.sz : Int)))))] [(0, some (Blk.mk (rc (mz (part f.der.c i) f.der.sz)) true))] 2)) (fun K => by kernel_rfl) ?_
    refine awp_seq_k fun K1 hK1 => ?_
    refine awp_cond rfl (fun e => awp_skip (hK1 _ ?_)) (fun e => awp_exit ⟨(), [(0, 0)], trivial, ?_⟩)
    · simp at e
      obtain ⟨p, hp1⟩ := get_ex (l := ps) (i := i + 1) (by omega)
      have hp2 : (rtrim ps)[i + 1]? = some p := by rw [htg, if_pos (by omega), hp1]
      have hpo := hp.ok p (List.mem_of_getElem? hp1)
      have hfx : ival p.1 p.2 = f.c (i + 1) := by rw [hf, pol_c, co_some hp1]; rfl
      have hof := iOf_fn ((i + 1 : Nat) : Int) (by omega) (by omega)
      have hr := riz_i64 (z := ((i + 1 : Nat) : Int)) (by omega)
      have h3 := imul_fn p.1 (riz ((i + 1 : Nat) : Int)).1 p.2 (riz ((i + 1 : Nat) : Int)).2 (by have := hpo.2; omega) (Nat.le_trans hr.2 (by omega)) hpo.1 hr.1
      rw [hfx, show ival (riz ((i + 1 : Nat) : Int)).1 (riz ((i + 1 : Nat) : Int)).2 = ((i + 1 : Nat) : Int) from rval_riz _, Int.mul_comm, ← Poly.der_c] at h3
      refine awp_seq_k fun K2 hK2 => ?_
      refine awp_block ?_
      refine awp_sx prog_ok hP hnt [] [] [] [0, 3, 4, 15, 16] (by kernel_rfl) (G := fun K => K (St.mk [(0, V.d (rp (rtrim ps))), (3, V.own 0 0 f.der.sz 2), (15, V.d (D.int IntKind.i64 (↑f.der.sz : Int))), (16, V.d (D.int IntKind.i64 (↑i : Int))), (4, V.d (D.int IntKind.i64 (↑i : Int)))] [(0, some (Blk.mk (rc (mz (part f.der.c i) f.der.sz)) true))] 4)) (fun K => by kernel_rfl) ?_
      refine awp_x prog_ok hP hnt [(23, .int .i64 (i + 1 : Nat)), (27, .int .i64 (i + 1 : Nat))] [.val (.agg (iz ((i + 1 : Nat) : Int))), .val (.agg (iz (f.der.c i)))] [some [.bool p.1, du p.2]] [0, 3, 15, 16] (by kernel_rfl) (G := fun K => IntKind.i64.wrap ((↑i : Int) + (1 : Int)) = (↑(i + 1) : Int) ∧ ((0 : Int) ≤ (↑(i + 1) : Int) ∧ (↑(i + 1) : Int) < (↑(rtrim ps).length : Int) ∧ ((↑(i + 1) : Int).toNat + 1) * 2 ≤ (rc (rtrim ps)).length) ∧ ((List.drop ((↑(i + 1) : Int).toNat * 2) (rc (rtrim ps)))[0]? = some (D.bool p.fst) ∧ (List.drop ((↑(i + 1) : Int).toNat * 2) (rc (rtrim ps)))[1]? = some (du p.snd)) ∧ IntKind.i64.wrap ((↑i : Int) + (1 : Int)) = (↑(i + 1) : Int) ∧ Fn Try.prog 74 [V.d (D.int IntKind.i64 (↑(i + 1) : Int))] [] (V.agg [D.bool (decide ((↑(i + 1) : Int) < (0 : Int))), du (dig (↑(i + 1) : Int).natAbs)]) [] ∧ Fn Try.prog 123 [V.agg [D.bool p.fst, du p.snd], V.agg [D.bool (decide ((↑(i + 1) : Int) < (0 : Int))), du (dig (↑(i + 1) : Int).natAbs)]] [] (V.agg [D.bool (decide (f.der.c i < (0 : Int))), du (dig (f.der.c i).natAbs)]) [] ∧ ((0 : Int) ≤ (↑i : Int) ∧ (↑i : Int) < (↑f.der.sz : Int)) ∧ 0 + (↑i : Int).toNat * 2 + (iz (f.der.c i)).length ≤ (rc (mz (part f.der.c i) f.der.sz)).length ∧ K (St.mk [(0, V.d (rp (rtrim ps))), (3, V.own 0 0 f.der.sz 2), (15, V.d (D.int IntKind.i64 (↑f.der.sz : Int))), (16, V.d (D.int IntKind.i64 (↑i : Int)))] [(0, some (Blk.mk (setCells (rc (mz (part f.der.c i) f.der.sz)) (0 + (↑i : Int).toNat * 2) (iz (f.der.c i))) true))] 17)) (fun K => by kernel_rfl) ?_
      have hsc := setCells_rc (mz (part f.der.c i) f.der.sz) i (riz (f.der.c i))
      rw [part_set, ic_riz] at hsc
      refine ⟨by rw [w64] <;> omega, ⟨by omega, by rw [htl]; omega, by simp; omega⟩, by rw [rc_drop0 hp2]; exact ⟨rfl, rfl⟩, by rw [w64] <;> omega, hof, h3, ⟨by omega, by omega⟩, ?_, hK2 _ ?_⟩
      · rw [rc_len, mz_len, Int.toNat_natCast, Nat.zero_add]; show i * 2 + 2 ≤ f.der.sz * 2; omega
      refine awp_x prog_ok hP hnt [(31, .int .i64 (i + 1 : Nat))] [] [] [0, 3, 15, 16] (by kernel_rfl) (G := fun K => IntKind.i64.wrap ((↑i : Int) + (1 : Int)) = (↑(i + 1) : Int) ∧ K (St.mk [(0, V.d (rp (rtrim ps))), (3, V.own 0 0 f.der.sz 2), (15, V.d (D.int IntKind.i64 (↑f.der.sz : Int))), (16, V.d (D.int IntKind.i64 (↑(i + 1) : Int)))] [(0, some (Blk.mk (setCells (rc (mz (part f.der.c i) f.der.sz)) (0 + (↑i : Int).toNat * 2) (iz (f.der.c i))) true))] 19)) (fun K => by kernel_rfl) ?_
      refine ⟨by rw [w64] <;> omega, i + 1, [(0, 0)], ⟨by omega, by omega⟩, ?_⟩
      rw [Int.toNat_natCast, Nat.zero_add, hsc]
      (constructor <;> simp [hl, envOk, memOk, conv, St.get, St.blk])
    · simp at e
      have : i = f.der.sz := by omega
      subst this
      (constructor <;> simp [hl, envOk, memOk, conv, St.get, St.blk, part_all])
  intro _ _
  refine awp_sx prog_ok hP hnt [] [] [] [2] (by kernel_rfl) (G := fun K => K (St.mk [(2, V.own 0 0 f.der.sz 2)] [(0, some (Blk.mk (rc (mz f.der.c f.der.sz)) true))] 3)) (fun K => by kernel_rfl) ?_
  refine awp_ret ⟨.inl rfl, retOwn rfl rfl ?_⟩
  rw [cp_mz]
  exact own_rp (by simp)

theorem powP {i m : Nat} {ps : List RI} {n : Int} (hi : i + m ≤ 12) (hp : W i ps) (hn : n < 2 ^ m) : Fn Try.prog 45 [.d (rp ps), .d (.int .i64 n)] [] (.d (rp (cp (Poly.ppow (pol ps) n.toNat)))) [] := by
  refine fn0 (nt := 26) (res := [.tmp 4]) Try.func45 rfl (by decide) rfl rfl rfl rfl ?_
  intro Cx hP hnt hl
  obtain ⟨f, hf⟩ : ∃ f, f = pol ps := ⟨_, rfl⟩
  have hlv : Lv i f := hf ▸ hp.lv
  have hof := ofP [1] (by simp) (by intro d hd; simp at hd; omega)
  rw [polL_one] at hof
  have hnm := normP (by omega) hp
  rw [← hf] at hnm
  rw [← hf]
  refine awp_sx prog_ok hP hnt [] [] [] [0, 1] (by kernel_rfl) (G := fun K => K (St.mk [(0, V.d (rp ps)), (1, V.d (D.int IntKind.i64 n))] [] 1)) (fun K => by kernel_rfl) ?_
  refine awp_sx prog_ok hP hnt [] [.val (.d (rp (cp 1))), .val (.d (rp (cp f)))] [] [0, 1, 5] (by kernel_rfl) (G := fun K => Fn Try.prog 51 [V.d (D.lst 1 [D.int IntKind.i64 (1 : Int)])] [] (V.d (rp (cp (1 : Poly)))) [] ∧ Fn Try.prog 63 [V.d (rp ps)] [] (V.d (rp (cp f))) [] ∧ K (St.mk [(0, V.d (rp (cp f))), (1, V.d (D.int IntKind.i64 n)), (5, V.d (rp (cp (1 : Poly))))] [] 7)) (fun K => by kernel_rfl) ?_
  refine ⟨hof, hnm, ?_⟩
  by_cases hn0 : n ≤ 0
  · have e0 : n.toNat = 0 := by omega
    rw [e0]
    refine awp_cut (ι := Unit) (fun _ => ⟨[(5, .d (rp (cp 1)))], [], 0⟩) (fun _ => True) ?_ ?_
    · refine awp_block ?_
      refine awp_loop (ι := Unit) (fun _ => ⟨[(0, .d (rp (cp f))), (1, .d (.int .i64 n)), (5, .d (rp (cp 1)))], [], 0⟩) (fun _ => True) (fun _ => 0) () [] trivial ?_ ?_
      · (constructor <;> simp [hl, envOk, memOk, conv, St.get, St.blk])
      intro _ _
      refine awp_seq_k fun K hK => ?_
      refine awp_sx prog_ok hP hnt [(11, .bool false)] [] [] [0, 1, 5, 11] (by kernel_rfl) (G := fun K => decide (n > (0 : Int)) = false ∧ K (St.mk [(0, V.d (rp (cp f))), (1, V.d (D.int IntKind.i64 n)), (5, V.d (rp (cp (1 : Poly)))), (11, V.d (D.bool false))] [] 2)) (fun K => by kernel_rfl) ?_
      refine ⟨by simp; omega, awp_cond (b := false) rfl nofun fun _ => awp_exit ⟨(), [], trivial, ?_⟩⟩
      (constructor <;> simp [hl, envOk, memOk, conv, St.get, St.blk])
    intro _ _
    refine awp_sx prog_ok hP hnt [] [] [] [4] (by kernel_rfl) (G := fun K => K (St.mk [(4, V.d (rp (cp (1 : Poly))))] [] 2)) (fun K => by kernel_rfl) ?_
    exact awp_ret ⟨.inl rfl, retD rfl⟩
  obtain ⟨N, rfl⟩ : ∃ N : Nat, n = N := ⟨n.toNat, by omega⟩
  have hN0 : 0 < N := by omega
  have hNm : N < 2 ^ m := by
    have : ((2 ^ m : Nat) : Int) = (2 : Int) ^ m := by rw [Int.natCast_pow]; rfl
    omega
  have hm9 : (2 : Nat) ^ m ≤ 4096 := lim2 (by omega)
  rw [Int.toNat_natCast]
  refine awp_cut (ι := Unit) (fun _ => ⟨[(5, .d (rp (cp (Poly.ppow f N))))], [], 0⟩) (fun _ => True) ?_ ?_
  · refine awp_block ?_
    refine awp_loop (ι := Nat × Nat × Poly × Poly) (fun q => ⟨[(0, .d (rp (cp q.2.2.2))), (1, .d (.int .i64 q.1)), (5, .d (rp (cp q.2.2.1)))], [], 0⟩)
      (fun q => (∃ a, q.2.2.1 = Poly.ppow f a ∧ (q.1 = 0 → a = N) ∧ (0 < q.1 → ∃ b, q.2.2.2 = Poly.ppow f b ∧ a + b * q.1 = N)) ∧ Lv (i + q.2.1) q.2.2.1 ∧ Lv (i + q.2.1) q.2.2.2 ∧ q.2.1 ≤ m ∧ q.1 < 2 ^ (m - q.2.1))
      (fun q => q.1) (N, 0, 1, f) [] ⟨⟨0, rfl, fun h => by omega, fun _ => ⟨1, Poly.ext_ev fun x _ => by simp [Int.pow_succ], by omega⟩⟩, lv_one.mono (by omega), hlv.mono (by omega), by simp, by simpa using hNm⟩ ?_ ?_
    · (constructor <;> simp [hl, envOk, memOk, conv, St.get, St.blk])
    intro ⟨n, j, o, b⟩ ⟨⟨a, ha, ha0, hab⟩, ho, hb, hj, hnj⟩
    simp only at ha ha0 hab ho hb hj hnj ⊢
    have hn9 : n < 4096 := Nat.lt_of_lt_of_le hnj (Nat.le_trans (p2 (by omega)) hm9)
    refine awp_seq_k fun K hK => ?_
    refine awp_sx prog_ok hP hnt [] [] [] [0, 1, 5, 11] (by kernel_rfl) (G := fun K => K (St.mk [(0, V.d (rp (cp b))), (1, V.d (D.int IntKind.i64 (↑n : Int))), (5, V.d (rp (cp o))), (11, V.d (D.bool (decide ((↑n : Int) > (0 : Int)))))] [] 2)) (fun K => by kernel_rfl) ?_
    refine awp_cond rfl (fun e => awp_skip (hK _ ?_)) (fun e => awp_exit ⟨(), [], trivial, ?_⟩)
    · simp at e
      obtain ⟨b', hb', hbn⟩ := hab e
      have hjm : j < m := by
        rcases Nat.lt_or_ge j m with h | h
        · exact h
        · rw [show m - j = 0 by omega] at hnj; simp at hnj; omega
      have hmo := mulP (i := i + j) (by omega) ho.w hb.w
      have hmb := mulP (i := i + j) (by omega) hb.w hb.w
      rw [pol_cp, pol_cp] at hmo
      rw [pol_cp] at hmb
      have hmol := Lv.mul (by omega) ho hb
      have hmbl := Lv.mul (by omega) hb hb
      refine awp_seq_k fun K2 hK2 => ?_
      refine awp_block ?_
      refine awp_cut (ι := Unit) (fun _ => ⟨[(0, .d (rp (cp b))), (1, .d (.int .i64 n)), (5, .d (rp (cp (if n % 2 = 1 then o * b else o))))], [], 0⟩) (fun _ => True) ?_ ?_
      · refine awp_sx prog_ok hP hnt [(15, .int .i64 (n % 2 : Nat))] [] [] [0, 1, 5, 16] (by kernel_rfl) (G := fun K => IntKind.i64.wrap (↑(BitVec.ofInt IntKind.i64.bits (↑n : Int) &&& BitVec.ofInt IntKind.i64.bits (1 : Int)).toNat : Int) = (↑(n % 2) : Int) ∧ K (St.mk [(0, V.d (rp (cp b))), (1, V.d (D.int IntKind.i64 (↑n : Int))), (5, V.d (rp (cp o))), (16, V.d (D.bool ((↑(n % 2) : Int) == (1 : Int))))] [] 5)) (fun K => by kernel_rfl) ?_
        refine ⟨andOne n (by omega), awp_cond rfl (fun e => ?_) (fun e => awp_skip ⟨(), [], trivial, ?_⟩)⟩
        · simp at e
          have e : n % 2 = 1 := by omega
          refine awp_x prog_ok hP hnt [] [.val (.d (rp (cp (o * b))))] [] [0, 1, 5] (by kernel_rfl) (G := fun K => Fn Try.prog 44 [V.d (rp (cp o)), V.d (rp (cp b))] [] (V.d (rp (cp (o * b)))) [] ∧ K (St.mk [(0, V.d (rp (cp b))), (1, V.d (D.int IntKind.i64 (↑n : Int))), (5, V.d (rp (cp (o * b))))] [] 9)) (fun K => by kernel_rfl) ?_
          refine ⟨hmo, (), [], trivial, ?_⟩
          (constructor <;> simp [hl, envOk, memOk, conv, St.get, St.blk, e])
        · simp at e
          have e : ¬ n % 2 = 1 := by omega
          (constructor <;> simp [hl, envOk, memOk, conv, St.get, St.blk, e])
      intro _ _
      refine awp_sx prog_ok hP hnt [] [] [] [0, 1, 5, 21] (by kernel_rfl) (G := fun K => K (St.mk [(0, V.d (rp (cp b))), (1, V.d (D.int IntKind.i64 (↑n : Int))), (5, V.d (rp (cp (if n % 2 = 1 then o * b else o)))), (21, V.d (D.bool (decide ((↑n : Int) > (1 : Int)))))] [] 2)) (fun K => by kernel_rfl) ?_
      refine awp_cond rfl (fun e2 => ?_) (fun e2 => awp_skip (hK2 _ ?_))
      · simp at e2
        refine awp_x prog_ok hP hnt [] [.val (.d (rp (cp (b * b))))] [] [0, 1, 5] (by kernel_rfl) (G := fun K => Fn Try.prog 44 [V.d (rp (cp b)), V.d (rp (cp b))] [] (V.d (rp (cp (b * b)))) [] ∧ K (St.mk [(0, V.d (rp (cp (b * b)))), (1, V.d (D.int IntKind.i64 (↑n : Int))), (5, V.d (rp (cp (if n % 2 = 1 then o * b else o))))] [] 6)) (fun K => by kernel_rfl) ?_
        refine ⟨hmb, hK2 _ ?_⟩
        refine awp_x prog_ok hP hnt [(13, .int .i64 (n / 2 : Nat))] [] [] [0, 1, 5] (by kernel_rfl) (G := fun K => (0 : Int) ≤ (1 : Int) ∧ (↑n : Int).fdiv ((2 : Int) ^ min (Int.toNat (1 : Int)) IntKind.i64.bits) = (↑(n / 2) : Int) ∧ K (St.mk [(0, V.d (rp (cp (b * b)))), (1, V.d (D.int IntKind.i64 (↑(n / 2) : Int))), (5, V.d (rp (cp (if n % 2 = 1 then o * b else o))))] [] 9)) (fun K => by kernel_rfl) ?_
        refine ⟨by decide, shrN n 1 (w := 64) (by omega), (n / 2, j + 1, if n % 2 = 1 then o * b else o, b * b), [], ⟨⟨⟨a + (n % 2) * b', ?_, fun h => by simp only at h; omega, fun _ => ⟨b' + b', ?_, ?_⟩⟩, ?_, hmbl, by show j + 1 ≤ m; omega, ?_⟩, by simp only; omega⟩, ?_⟩
        · simp only
          split
          · rename_i h; rw [h, Nat.one_mul, Poly.ppow_add, ha, hb']
          · rename_i h; rw [show n % 2 = 0 by omega, Nat.zero_mul, Nat.add_zero, ha]
        · simp only; rw [Poly.ppow_add, hb']
        · simp only
          rw [← hbn]
          have := Nat.div_add_mod n 2
          generalize n / 2 = q at *
          generalize n % 2 = r at *
          subst this
          grind
        · simp only
          split
          · exact hmol
          · exact ho.mono (by omega)
        · simp only
          rw [show m - j = (m - (j + 1)) + 1 by omega, Nat.pow_succ] at hnj
          omega
        · (constructor <;> simp [hl, envOk, memOk, conv, St.get, St.blk])
      · simp at e2
        have e1 : n = 1 := by omega
        subst e1
        refine awp_x prog_ok hP hnt [(13, .int .i64 (0 : Nat))] [] [] [0, 1, 5] (by kernel_rfl) (G := fun K => (0 : Int) ≤ (1 : Int) ∧ (↑1 : Int).fdiv ((2 : Int) ^ min (Int.toNat (1 : Int)) IntKind.i64.bits) = (↑0 : Int) ∧ K (St.mk [(0, V.d (rp (cp b))), (1, V.d (D.int IntKind.i64 (↑0 : Int))), (5, V.d (rp (cp (if 1 % 2 = 1 then o * b else o))))] [] 5)) (fun K => by kernel_rfl) ?_
        refine ⟨by decide, shrN 1 1 (w := 64) (by omega), (0, j + 1, o * b, b), [], ⟨⟨⟨a + b', ?_, fun _ => by omega, fun h => by simp only at h; omega⟩, hmol, hb.mono (by show i + j ≤ i + (j + 1); omega), by show j + 1 ≤ m; omega, Nat.pow_pos (by omega)⟩, by simp⟩, ?_⟩
        · simp only; rw [Poly.ppow_add, ha, hb']
        · (constructor <;> simp [hl, envOk, memOk, conv, St.get, St.blk])
    · simp at e
      subst e
      rw [← ha0 rfl, ← ha]
      (constructor <;> simp [hl, envOk, memOk, conv, St.get, St.blk])
  intro _ _
  refine awp_sx prog_ok hP hnt [] [] [] [4] (by kernel_rfl) (G := fun K => K (St.mk [(4, V.d (rp (cp (f.ppow N))))] [] 2)) (fun K => by kernel_rfl) ?_
  exact awp_ret ⟨.inl rfl, retD rfl⟩
theorem Lv.powo {m : Nat} : ∀ {i : Nat} {o f : Poly} (n : Nat), Lv i o → Lv i f → n < 2 ^ m → i + m ≤ 12 → Lv (i + m) (o * Poly.ppow f n) := by
  induction m with
  | zero =>
    intro i o f n ho hf hn _
    rw [show n = 0 by simpa using hn, show o * Poly.ppow f 0 = o from Poly.ext_ev fun x _ => by simp]
    exact ho
  | succ m ih =>
    intro i o f n ho hf hn hi
    rw [Nat.pow_succ] at hn
    have hff := Lv.mul (by omega) hf hf
    have hof := Lv.mul (by omega) ho hf
    have hdm := Nat.div_add_mod n 2
    by_cases e : n % 2 = 0
    · have h := ih (i := i + 1) (n / 2) (ho.mono (by omega)) hff (by omega) (by omega)
      rw [show o * Poly.ppow (f * f) (n / 2) = o * Poly.ppow f n from Poly.ext_ev fun x _ => by
        simp only [Poly.ev_mul, Poly.ev_ppow]
        rw [show n = n / 2 + n / 2 by omega, Int.pow_add, Int.mul_pow, show (n / 2 + n / 2) / 2 = n / 2 by omega], show i + 1 + m = i + (m + 1) by omega] at h
      exact h
    · have h := ih (i := i + 1) (n / 2) hof hff (by omega) (by omega)
      rw [show o * f * Poly.ppow (f * f) (n / 2) = o * Poly.ppow f n from Poly.ext_ev fun x _ => by
        simp only [Poly.ev_mul, Poly.ev_ppow]
        rw [show n = n / 2 + n / 2 + 1 by omega, Int.pow_succ, Int.pow_add, Int.mul_pow, show (n / 2 + n / 2 + 1) / 2 = n / 2 by omega]
        grind, show i + 1 + m = i + (m + 1) by omega] at h
      exact h
theorem Lv.pow {i m : Nat} {f : Poly} (n : Nat) (h : Lv i f) (hn : n < 2 ^ m) (hi : i + m ≤ 12) : Lv (i + m) (Poly.ppow f n) := by
  have := Lv.powo n (lv_one.mono (Nat.zero_le i)) h hn hi
  rwa [show 1 * Poly.ppow f n = Poly.ppow f n from Poly.ext_ev fun x _ => by simp] at this
end Go.Abs

set_option linter.unusedVariables false
set_option linter.unusedSimpArgs false
namespace Go.Abs
open Go
variable {P : Program}

theorem RepV.own_ren {H : Array Obj} {ok : Nat → Prop} {β β' : Nat → Option Nat} {b b' o n sz : Nat} {v : Value} (e : β b = β' b') (h : RepV H ok β (.own b o n sz) v) : RepV H ok β' (.own b' o n sz) v := by
  simp only [RepV] at h ⊢
  obtain ⟨A, c, h1, h2, h3⟩ := h
  refine ⟨A, c, h1, h2, ?_⟩
  rcases h3 with h3 | ⟨B, arr, T, g1, g2, g3, g4⟩
  · exact .inl h3
  · exact .inr ⟨B, arr, T, g1, by rw [← e]; exact g2, g3, g4⟩

/-- a made block by another number -/
theorem Fn.out_ren {f : Nat} {args : List V} {o n sz : Nat} {k : Blk} (h : Fn P f args [] (.own 0 o n sz) [(0, k)]) (b : Nat) : Fn P f args [] (.own b o n sz) [(b, k)] := by
  refine ⟨h.1, fun w ok β vs hok hs hr hl hi => ?_⟩
  refine (h.2 w ok β vs hok hs hr (by simp) (by simp)).mono ?_
  rintro e w' ⟨v, ok', β', rfl, hc⟩
  refine ⟨v, ok', fun x => if x = b then β' 0 else none, rfl, hc.os, hc.tape, hc.output, hc.size, hc.keep, hc.shape, hc.lo, hc.hi, hc.lt, RepV.own_ren (by simp) hc.res, by simp, fun x kx hx => ?_, fun x y kx ky B hx hy _ _ => ?_⟩
  · simp at hx
    obtain ⟨rfl, rfl⟩ := hx
    simpa using hc.made 0 kx (by simp)
  · simp at hx hy
    rw [hx.1, hy.1]
/-- a lent block by another number -/
theorem Fn.lend_ren {f : Nat} {o n o' n' sz : Nat} {k k' : Blk} (h : Fn P f [.own 0 o n sz] [(0, k)] (.own 0 o' n' sz) [(0, k')]) (b : Nat) : Fn P f [.own b o n sz] [(b, k)] (.own b o' n' sz) [(b, k')] := by
  refine ⟨h.1, fun w ok β vs hok hs hr hl hi => ?_⟩
  have hr' : RepVs w.heap ok (fun x => if x = 0 then β b else none) [.own 0 o n sz] vs 0 := by
    simp only [RepVs] at hr ⊢
    obtain ⟨⟨u, h1, h2⟩, h3⟩ := hr
    exact ⟨⟨u, h1, RepV.own_ren (by simp) h2⟩, h3⟩
  refine (h.2 w ok (fun x => if x = 0 then β b else none) vs hok hs hr' (fun x kx hx => ?_) (fun x y kx ky B hx hy _ _ => ?_)).mono ?_
  · simp at hx
    obtain ⟨rfl, rfl⟩ := hx
    simpa using hl _ kx (by simp)
  · simp at hx hy
    rw [hx.1, hy.1]
  rintro e w' ⟨v, ok', β', rfl, hc⟩
  refine ⟨v, ok', fun x => if x = b then β' 0 else none, rfl, hc.os, hc.tape, hc.output, hc.size, fun j hj hn => hc.keep j hj fun x kx hx => ?_, hc.shape, hc.lo, fun j hj => ?_, hc.lt, RepV.own_ren (by simp) hc.res, fun x kx hx => ?_, fun x kx hx => ?_, fun x y kx ky B hx hy _ _ => ?_⟩
  · simp at hx
    obtain ⟨rfl, rfl⟩ := hx
    simpa using hn _ kx (by simp)
  · rcases hc.hi j hj with h1 | ⟨x, kx, hx, h1⟩ | h1
    · exact .inl h1
    · simp at hx
      obtain ⟨rfl, rfl⟩ := hx
      exact .inr (.inl ⟨b, kx, by simp, by simpa using h1⟩)
    · exact .inr (.inr h1)
  · simp at hx
    obtain ⟨rfl, rfl⟩ := hx
    simpa using hc.same 0 kx (by simp)
  · simp at hx
    obtain ⟨rfl, rfl⟩ := hx
    rcases hc.made 0 kx (by simp) with h1 | ⟨B, h1, h2, h3⟩
    · exact .inl (by simpa using h1)
    · refine .inr ⟨B, by simpa using h1, h2, ?_⟩
      rcases h3 with ⟨x, kx, hx, h3⟩ | h3
      · simp at hx
        obtain ⟨rfl, rfl⟩ := hx
        exact .inl ⟨_, _, List.mem_singleton.2 rfl, by simpa using h3⟩
      · exact .inr h3
  · simp at hx hy
    rw [hx.1, hy.1]
end Go.Abs

set_option linter.unusedVariables false
set_option linter.unusedSimpArgs false
namespace Go.Abs
open Go Go.Proofs
set_option maxRecDepth 100000

/-- trim of a row that is the call's own -/
theorem utrimO_fn (ps : List RI) (hn : ps.length ≤ 2 ^ 40) (hp : Pok (2 ^ 40) ps) (b : Nat) : Fn Try.prog 161 [.own b 0 ps.length 2] [(b, ⟨rc ps, true⟩)] (.own b 0 (zdeg (co ps) ps.length) 2) [(b, ⟨rc ps, true⟩)] := by
  refine Fn.lend_ren ?_ b
  refine fn_intro prog_ok (nx := 1) (res := [.tmp 2]) Try.func161 rfl (by decide) (by show 1 ≤ 24; omega) rfl (by simp) (by simp [V.refsL, V.refs]) ?_
  intro Cx hP hnt0 hl
  have hnt : Cx.nt = 24 := hnt0
  simp only [List.map_cons, List.map_nil] at hl ⊢
  have hle := zdeg_le (co ps) ps.length
  refine awp_sx prog_ok hP hnt [] [] [] [0] (by kernel_rfl) (G := fun K => K (St.mk [(0, V.own 0 0 ps.length 2)] [(0, some (Blk.mk (rc ps) true))] 2)) (fun K => by kernel_rfl) ?_
  refine awp_sx prog_ok hP hnt [] [] [] [0, 3] (by kernel_rfl) (G := fun K => K (St.mk [(0, V.own 0 0 ps.length 2), (3, V.d (D.int IntKind.i64 (↑ps.length : Int)))] [(0, some (Blk.mk (rc ps) true))] 5)) (fun K => by kernel_rfl) ?_
  refine awp_cut (ι := Unit) (fun _ => ⟨[(0, .own 0 0 ps.length 2), (3, .d (.int .i64 (zdeg (co ps) ps.length : Nat)))], [(0, some ⟨rc ps, true⟩)], 1⟩) (fun _ => True) ?_ ?_
  · refine awp_block ?_
    refine awp_loop (ι := Nat) (fun n => ⟨[(0, .own 0 0 ps.length 2), (3, .d (.int .i64 n))], [(0, some ⟨rc ps, true⟩)], 1⟩) (fun n => n ≤ ps.length ∧ zdeg (co ps) n = zdeg (co ps) ps.length) (fun n => n) ps.length [(0, 0)] ⟨Nat.le_refl _, rfl⟩ ?_ ?_
    · (constructor <;> simp [hl, envOk, memOk, conv, St.get, St.blk])
    intro n ⟨hn2, ht⟩
    refine awp_seq_k fun K2 hK2 => ?_
    by_cases h0 : n = 0
    · subst h0
      refine awp_sx prog_ok hP hnt [(8, .bool false)] [] [] [0, 3, 16] (by kernel_rfl) (G := fun K => decide ((↑0 : Int) > (0 : Int)) = false ∧ K (St.mk [(0, V.own 0 0 ps.length 2), (3, V.d (D.int IntKind.i64 (↑0 : Int))), (16, V.d (D.bool false))] [(0, some (Blk.mk (rc ps) true))] 12)) (fun K => by kernel_rfl) ?_
      refine ⟨rfl, awp_cond (b := false) rfl nofun fun _ => awp_exit ⟨(), [(0, 0)], trivial, ?_⟩⟩
      (constructor <;> simp [hl, envOk, memOk, conv, St.get, St.blk, ← ht, zdeg])
    · obtain ⟨q, hq⟩ := get_ex (l := ps) (i := n - 1) (by omega)
      obtain ⟨dq, lq⟩ := hp q (List.mem_of_getElem? hq)
      have hc := co_some hq
      have hz : val q.2 = 0 ↔ rval q = 0 := by unfold rval ival sgn; split <;> omega
      refine awp_sx prog_ok hP hnt [(8, .bool true), (11, .int .i64 (n - 1 : Nat))] [.val (.d (.bool (decide (val q.2 = 0))))] [some [du q.2]] [0, 3, 16] (by kernel_rfl) (G := fun K => decide ((↑n : Int) > (0 : Int)) = true ∧ IntKind.i64.wrap ((↑n : Int) - (1 : Int)) = (↑(n - 1) : Int) ∧ ((0 : Int) ≤ (↑(n - 1) : Int) ∧ (↑(n - 1) : Int) < (↑ps.length : Int)) ∧ (rc ps)[0 + (↑(n - 1) : Int).toNat * 2 + 1]? = some (du q.snd) ∧ Fn Try.prog 187 [V.d (du q.snd)] [] (V.d (D.bool (decide (val q.snd = 0)))) [] ∧ K (St.mk [(0, V.own 0 0 ps.length 2), (3, V.d (D.int IntKind.i64 (↑n : Int))), (16, V.d (D.bool (decide (val q.snd = 0))))] [(0, some (Blk.mk (rc ps) true))] 12)) (fun K => by kernel_rfl) ?_
      refine ⟨by simp; omega, by rw [w64] <;> omega, ⟨by omega, by omega⟩, by rw [Int.toNat_natCast, Nat.zero_add]; exact rc_get1 hq, isZero_fn q.2 (by omega) dq, ?_⟩
      refine awp_cond rfl (fun hb => awp_skip (hK2 _ ?_)) (fun hb => awp_exit ⟨(), [(0, 0)], trivial, ?_⟩)
      · simp at hb
        refine awp_block ?_
        refine awp_x prog_ok hP hnt [(18, .int .i64 (n - 1 : Nat))] [] [] [0, 3] (by kernel_rfl) (G := fun K => IntKind.i64.wrap ((↑n : Int) - (1 : Int)) = (↑(n - 1) : Int) ∧ K (St.mk [(0, V.own 0 0 ps.length 2), (3, V.d (D.int IntKind.i64 (↑(n - 1) : Int)))] [(0, some (Blk.mk (rc ps) true))] 15)) (fun K => by kernel_rfl) ?_
        refine ⟨by rw [w64] <;> omega, n - 1, [(0, 0)], ⟨⟨by omega, ?_⟩, by omega⟩, ?_⟩
        · rw [← ht]; exact (zdeg_zero (by omega) (by rw [hc]; exact hz.1 hb)).symm
        · (constructor <;> simp [hl, envOk, memOk, conv, St.get, St.blk])
      · simp at hb
        have hzs := zdeg_stop (f := co ps) (show 0 < n by omega) (by rw [hc]; exact fun e => hb (hz.2 e))
        (constructor <;> simp [hl, envOk, memOk, conv, St.get, St.blk, ← ht, hzs])
  · intro _ _
    refine awp_seq_k fun K hK => ?_
    refine awp_sx prog_ok hP hnt [] [] [] [0, 3, 20] (by kernel_rfl) (G := fun K => K (St.mk [(0, V.own 0 0 ps.length 2), (3, V.d (D.int IntKind.i64 (↑(zdeg (co ps) ps.length) : Int))), (20, V.d (D.bool ((↑(zdeg (co ps) ps.length) : Int) == (0 : Int))))] [(0, some (Blk.mk (rc ps) true))] 3)) (fun K => by kernel_rfl) ?_
    refine awp_cond rfl (fun hb => ?_) (fun hb => awp_skip (hK _ ?_))
    · refine awp_sx prog_ok hP hnt [] [] [] [2] (by kernel_rfl) (G := fun K => K (St.mk [(2, V.nil)] [(0, some (Blk.mk (rc ps) true))] 4)) (fun K => by kernel_rfl) ?_
      simp at hb
      rw [hb]
      refine awp_weak [(0, 0)] ⟨[(2, .own 0 0 0 2)], [(0, some ⟨rc ps, true⟩)], 1⟩ ?_ (awp_ret ⟨.inl rfl, .inl ⟨rfl, rfl, trivial⟩⟩)
      (constructor <;> simp [hl, envOk, memOk, conv, St.get, St.blk])
    · refine awp_sx prog_ok hP hnt [] [] [] [2] (by kernel_rfl) (G := fun K => ((0 : Int) ≤ (↑(zdeg (co ps) ps.length) : Int) ∧ (↑(zdeg (co ps) ps.length) : Int) ≤ (↑ps.length : Int)) ∧ K (St.mk [(2, V.own 0 0 (↑(zdeg (co ps) ps.length) : Int).toNat 2)] [(0, some (Blk.mk (rc ps) true))] 7)) (fun K => by kernel_rfl) ?_
      exact ⟨⟨by omega, by omega⟩, awp_ret ⟨.inl rfl, .inl ⟨rfl, rfl, trivial⟩⟩⟩

theorem fn0o {f : Nat} {fn : Func} {c : Code} {args : List V} {r : V} {out : List (Nat × Blk)} {res : List ResultVar} {nt : Nat}
    (hf : Try.prog.funcs[f]? = some fn) (hb : fn.body = some c) (hn : (fn.name == "runtime.NumGoroutine") = false) (hnt : fn.ntmps = nt) (hle : Nat.ble args.length nt = true) (hres : fn.results = res.toArray) (hrefs : V.refsL args = [])
    (h : ∀ C : Ctx, C.P = Try.prog → C.nt = nt → C.lids = [] → AWP C c ⟨envOf 0 args, [], 0⟩ (fun e s' => (e = .ret ∨ e = .normal) ∧ RetOk tab res r out s')) : Fn Try.prog f args [] r out :=
  fn_intro prog_ok hf hb hn (by rw [hnt]; exact Nat.le_of_ble_eq_true hle) hres (by simp) (by rw [hrefs]; simp) (fun C h1 h2 h3 => h C h1 (by rw [h2, hnt]) h3)

/-- the canonical form, as a row of the caller's own -/
theorem normO_fn (ps : List RI) (hn : ps.length ≤ 2 ^ 39) (hp : Pok (2 ^ 39) ps) (b : Nat) : Fn Try.prog 63 [.d (rp ps)] [] (.own b 0 (pol ps).sz 2) [(b, ⟨rc (cp (pol ps)), true⟩)] := by
  refine Fn.out_ren ?_ b
  refine fn0o (nt := 25) (res := [.tmp 2]) Try.func63 rfl (by decide) rfl rfl rfl rfl ?_
  intro Cx hP hnt hl
  obtain ⟨f, hf⟩ : ∃ f, f = pol ps := ⟨_, rfl⟩
  have hfs : f.sz ≤ ps.length := hf ▸ pol_sz ps
  have ht := utrim_fn ps (by omega) (pok_mono (by omega) hp)
  have htl : (rtrim ps).length = f.sz := by rw [rtrim_lenp, hf]
  rw [← hf]
  refine awp_sx prog_ok hP hnt [] [] [] [0] (by kernel_rfl) (G := fun K => K (St.mk [(0, V.d (rp ps))] [] 1)) (fun K => by kernel_rfl) ?_
  refine awp_sx prog_ok hP hnt [(7, .int .i64 f.sz)] [.val (.d (rp (rtrim ps)))] [] [0, 3] (by kernel_rfl) (G := fun K => Fn Try.prog 161 [V.d (rp ps)] [] (V.d (rp (rtrim ps))) [] ∧ (↑(rtrim ps).length : Int) = (↑f.sz : Int) ∧ ((↑f.sz : Int) = (↑f.sz : Int) ∧ (0 : Int) ≤ (↑f.sz : Int) ∧ (↑f.sz : Int) * (↑32 : Int) ≤ (2 : Int) ^ 47) ∧ K (St.mk [(0, V.d (rp ps)), (3, V.own 4 0 (↑f.sz : Int).toNat 2)] [(4, some (Blk.mk (zeros (↑f.sz : Int).toNat (TI.mk (Kind.struct [(0, 1), (1, 1)]) 2 32 [D.bool false, D.lst 0 []]).zero) true))] 6)) (fun K => by kernel_rfl) ?_
  refine ⟨ht, by rw [htl], by omega, ?_⟩
  refine awp_cut (ι := Unit) (fun _ => ⟨[(3, .own 0 0 f.sz 2)], [(0, some ⟨rc (mz f.c f.sz), true⟩)], 1⟩) (fun _ => True) ?_ ?_
  · refine awp_sx prog_ok hP hnt [] [] [] [0, 3, 10, 11] (by kernel_rfl) (G := fun K => K (St.mk [(0, V.d (rp ps)), (3, V.own 4 0 (↑f.sz : Int).toNat 2), (10, V.d (D.int IntKind.i64 (↑(↑f.sz : Int).toNat : Int))), (11, V.d (D.int IntKind.i64 (0 : Int)))] [(4, some (Blk.mk (zeros (↑f.sz : Int).toNat (TI.mk (Kind.struct [(0, 1), (1, 1)]) 2 32 [D.bool false, D.lst 0 []]).zero) true))] 9)) (fun K => by kernel_rfl) ?_
    refine awp_block ?_
    refine awp_loop (ι := Nat) (fun i => ⟨[(0, .d (rp ps)), (3, .own 0 0 f.sz 2), (10, .d (.int .i64 f.sz)), (11, .d (.int .i64 i))], [(0, some ⟨rc (mz (part f.c i) f.sz), true⟩)], 1⟩)
      (fun i => i ≤ f.sz) (fun i => f.sz - i) 0 [(0, 4)] (by simp) ?_ ?_
    · rw [Int.toNat_natCast]
      (constructor <;> simp [hl, envOk, memOk, conv, St.get, St.blk, zeros_rc, part_zero])
    intro i hi
    refine awp_sx prog_ok hP hnt [] [] [] [0, 3, 10, 11, 12] (by kernel_rfl) (G := fun K => K (St.mk [(0, V.d (rp ps)), (3, V.own 0 0 f.sz 2), (10, V.d (D.int IntKind.i64 (↑f.sz : Int))), (11, V.d (D.int IntKind.i64 (↑i : Int))), (12, V.d (D.bool (decide ((↑i : Int) < (↑f.sz : Int)))))] [(0, some (Blk.mk (rc (mz (part f.c i) f.sz)) true))] 2)) (fun K => by kernel_rfl) ?_
    refine awp_seq_k fun K1 hK1 => ?_
    refine awp_cond rfl (fun e => awp_skip (hK1 _ ?_)) (fun e => awp_exit ⟨(), [(0, 0)], trivial, ?_⟩)
    · simp at e
      obtain ⟨p, hp1⟩ := get_ex (l := ps) (i := i) (by omega)
      have hpo := hp p (List.mem_of_getElem? hp1)
      have hfx : ival p.1 p.2 = f.c i := by rw [hf, pol_c, co_some hp1]; rfl
      have h3 := inorm_fn p.1 p.2 (by have := hpo.2; omega) hpo.1
      rw [hfx] at h3
      refine awp_seq_k fun K2 hK2 => ?_
      refine awp_block ?_
      refine awp_sx prog_ok hP hnt [] [] [] [0, 3, 4, 10, 11] (by kernel_rfl) (G := fun K => K (St.mk [(0, V.d (rp ps)), (3, V.own 0 0 f.sz 2), (10, V.d (D.int IntKind.i64 (↑f.sz : Int))), (11, V.d (D.int IntKind.i64 (↑i : Int))), (4, V.d (D.int IntKind.i64 (↑i : Int)))] [(0, some (Blk.mk (rc (mz (part f.c i) f.sz)) true))] 4)) (fun K => by kernel_rfl) ?_
      refine awp_x prog_ok hP hnt [] [.val (.agg (iz (f.c i)))] [some [.bool p.1, du p.2]] [0, 3, 10, 11] (by kernel_rfl) (G := fun K => ((0 : Int) ≤ (↑i : Int) ∧ (↑i : Int) < (↑ps.length : Int) ∧ ((↑i : Int).toNat + 1) * 2 ≤ (rc ps).length) ∧ ((List.drop ((↑i : Int).toNat * 2) (rc ps))[0]? = some (D.bool p.fst) ∧ (List.drop ((↑i : Int).toNat * 2) (rc ps))[1]? = some (du p.snd)) ∧ Fn Try.prog 165 [V.agg [D.bool p.fst, du p.snd]] [] (V.agg [D.bool (decide (f.c i < (0 : Int))), du (dig (f.c i).natAbs)]) [] ∧ ((0 : Int) ≤ (↑i : Int) ∧ (↑i : Int) < (↑f.sz : Int)) ∧ 0 + (↑i : Int).toNat * 2 + (iz (f.c i)).length ≤ (rc (mz (part f.c i) f.sz)).length ∧ K (St.mk [(0, V.d (rp ps)), (3, V.own 0 0 f.sz 2), (10, V.d (D.int IntKind.i64 (↑f.sz : Int))), (11, V.d (D.int IntKind.i64 (↑i : Int)))] [(0, some (Blk.mk (setCells (rc (mz (part f.c i) f.sz)) (0 + (↑i : Int).toNat * 2) (iz (f.c i))) true))] 13)) (fun K => by kernel_rfl) ?_
      have hsc := setCells_rc (mz (part f.c i) f.sz) i (riz (f.c i))
      rw [part_set, ic_riz] at hsc
      refine ⟨⟨by omega, by omega, by simp; omega⟩, by rw [rc_drop0 hp1]; exact ⟨rfl, rfl⟩, h3, ⟨by omega, by omega⟩, ?_, hK2 _ ?_⟩
      · rw [rc_len, mz_len, Int.toNat_natCast, Nat.zero_add]; show i * 2 + 2 ≤ f.sz * 2; omega
      refine awp_x prog_ok hP hnt [(22, .int .i64 (i + 1 : Nat))] [] [] [0, 3, 10, 11] (by kernel_rfl) (G := fun K => IntKind.i64.wrap ((↑i : Int) + (1 : Int)) = (↑(i + 1) : Int) ∧ K (St.mk [(0, V.d (rp ps)), (3, V.own 0 0 f.sz 2), (10, V.d (D.int IntKind.i64 (↑f.sz : Int))), (11, V.d (D.int IntKind.i64 (↑(i + 1) : Int)))] [(0, some (Blk.mk (setCells (rc (mz (part f.c i) f.sz)) (0 + (↑i : Int).toNat * 2) (iz (f.c i))) true))] 15)) (fun K => by kernel_rfl) ?_
      refine ⟨by rw [w64] <;> omega, i + 1, [(0, 0)], ⟨by omega, by omega⟩, ?_⟩
      rw [Int.toNat_natCast, Nat.zero_add, hsc]
      (constructor <;> simp [hl, envOk, memOk, conv, St.get, St.blk])
    · simp at e
      have : i = f.sz := by omega
      subst this
      (constructor <;> simp [hl, envOk, memOk, conv, St.get, St.blk, part_all])
  intro _ _
  have hok : Pok (2 ^ 40) (mz f.c f.sz) := pok_mono (by omega) (mz_ok (K := 2 ^ 39) fun k => by rw [hf]; exact co_abs hp k)
  have ht2 := utrimO_fn (mz f.c f.sz) (by simp; omega) hok 0
  rw [zdeg_ext (G := f.c) (fun k hk => co_mz (by simpa using hk)), mz_len, zdeg_sz (Nat.le_refl _)] at ht2
  refine awp_sx prog_ok hP hnt [] [.lend (.own 0 0 f.sz 2) [rc (mz f.c f.sz)]] [] [2] (by kernel_rfl) (G := fun K => (Blk.mk (rc (mz f.c f.sz)) true).live = true ∧ Fn Try.prog 161 [V.own 0 0 f.sz 2] [(0, Blk.mk (rc (mz f.c f.sz)) true)] (V.own 0 0 f.sz 2) [(0, Blk.mk (rc (mz f.c f.sz)) true)] ∧ K (St.mk [(2, V.own 0 0 f.sz 2)] [(0, some (Blk.mk (rc (mz f.c f.sz)) true))] 4)) (fun K => by kernel_rfl) ?_
  refine ⟨rfl, ht2, awp_ret ⟨.inl rfl, .inl ⟨rfl, ?_, trivial⟩⟩⟩
  rw [cp_mz]; rfl

theorem iabs_fn (s : Bool) (l : List Nat) (h : l.length ≤ 2 ^ 40) (hd : Dg l) : Fn Try.prog 168 [.agg (ic s l)] [] (.agg (iz (ival s l).natAbs)) [] := by
  refine fn0 (nt := 6) (res := [.cell 2 46]) Try.func168 rfl (by decide) rfl rfl rfl rfl ?_
  intro Cx hP hnt hl
  have h1 := from_fn false l h hd
  rw [show ival false l = ((ival s l).natAbs : Int) by unfold ival; rw [sgn_abs]; rfl] at h1
  refine awp_sx prog_ok hP hnt [] [] [] [1, 2] (by kernel_rfl) (G := fun K => K (St.mk [(1, V.ptr 0 0), (2, V.ptr 1 0)] [(0, some (Blk.mk [D.bool s, du l] true)), (1, some (Blk.mk [D.bool false, D.lst 0 []] true))] 2)) (fun K => by kernel_rfl) ?_
  refine awp_sx prog_ok hP hnt [] [.val (.agg (iz (ival s l).natAbs))] [] [2] (by kernel_rfl) (G := fun K => Fn Try.prog 182 [V.d (D.bool false), V.d (du l)] [] (V.agg [D.bool (decide ((↑(ival s l).natAbs : Int) < (0 : Int))), du (dig (↑(ival s l).natAbs : Int).natAbs)]) [] ∧ 0 + (iz (↑(ival s l).natAbs : Int)).length ≤ [D.bool false, D.lst 0 []].length ∧ K (St.mk [(2, V.ptr 1 0)] [(0, some (Blk.mk [D.bool s, du l] true)), (1, some (Blk.mk [D.bool (decide ((↑(ival s l).natAbs : Int) < (0 : Int))), du (dig (↑(ival s l).natAbs : Int).natAbs)] true))] 6)) (fun K => by kernel_rfl) ?_
  exact ⟨h1, by simp [iz], awp_ret ⟨.inl rfl, retC (l := true) rfl rfl rfl rfl⟩⟩

theorem negP {i : Nat} {ps : List RI} (hi : i ≤ 12) (hp : W i ps) : Fn Try.prog 66 [.d (rp ps)] [] (.d (rp (cp (-pol ps)))) [] := by
  refine fn0 (nt := 5) (res := [.tmp 2]) Try.func66 rfl (by decide) rfl rfl rfl rfl ?_
  intro Cx hP hnt hl
  have h1 := subP (i := i) (ps := []) hi ⟨by simp, by simp⟩ hp
  rw [show pol [] - pol ps = -pol ps from Poly.ext_c fun k => by rw [Poly.sub_c, Poly.neg_c]; show co [] k - _ = _; rw [co_beyond (by simp)]; omega] at h1
  refine awp_sx prog_ok hP hnt [] [] [] [0] (by kernel_rfl) (G := fun K => K (St.mk [(0, V.d (rp ps))] [] 1)) (fun K => by kernel_rfl) ?_
  refine awp_sx prog_ok hP hnt [] [.val (.d (rp (cp (-pol ps))))] [] [2] (by kernel_rfl) (G := fun K => Fn Try.prog 50 [V.d (D.lst 0 []), V.d (rp ps)] [] (V.d (rp (cp (-pol ps)))) [] ∧ K (St.mk [(2, V.d (rp (cp (-pol ps))))] [] 4)) (fun K => by kernel_rfl) ?_
  exact ⟨h1, awp_ret ⟨.inl rfl, retD rfl⟩⟩

theorem trimW {i : Nat} {ps : List RI} (hi : i ≤ 12) (hp : W i ps) : Fn Try.prog 161 [.d (rp ps)] [] (.d (rp (rtrim ps))) [] :=
  utrim_fn ps (by have := hp.len; have := lim2 hi; omega) (pok_mono (by have := lim4 hi; omega) hp.ok)
theorem degP {i : Nat} {ps : List RI} (hi : i ≤ 12) (hp : W i ps) : Fn Try.prog 68 [.d (rp ps)] [] (.d (.int .i64 ((pol ps).sz - 1))) [] := by
  refine fn0 (nt := 7) (res := [.tmp 2]) Try.func68 rfl (by decide) rfl rfl rfl rfl ?_
  intro Cx hP hnt hl
  have h1 := trimW hi hp
  have h2 := rtrim_lenp ps
  have h3 := pol_sz ps
  have h4 := hp.len
  have h5 := lim2 hi
  refine awp_sx prog_ok hP hnt [] [] [] [0] (by kernel_rfl) (G := fun K => K (St.mk [(0, V.d (rp ps))] [] 1)) (fun K => by kernel_rfl) ?_
  refine awp_sx prog_ok hP hnt [(6, .int .i64 ((pol ps).sz - 1))] [.val (.d (rp (rtrim ps)))] [] [2] (by kernel_rfl) (G := fun K => Fn Try.prog 161 [V.d (rp ps)] [] (V.d (rp (rtrim ps))) [] ∧ IntKind.i64.wrap ((↑(rtrim ps).length : Int) - (1 : Int)) = (↑(pol ps).sz : Int) - (1 : Int) ∧ K (St.mk [(2, V.d (D.int IntKind.i64 ((↑(pol ps).sz : Int) - (1 : Int))))] [] 6)) (fun K => by kernel_rfl) ?_
  exact ⟨h1, by rw [h2, w64] <;> omega, awp_ret ⟨.inl rfl, retD rfl⟩⟩
theorem iz_zero : iz 0 = [D.bool false, D.lst 0 []] := by simp [iz, dig_zero, du, u32s]
theorem leadP {i : Nat} {ps : List RI} (hi : i ≤ 12) (hp : W i ps) : Fn Try.prog 62 [.d (rp ps)] [] (.agg (iz (pol ps).lc)) [] := by
  refine fn0 (nt := 16) (res := [.cell 2 46]) Try.func62 rfl (by decide) rfl rfl rfl rfl ?_
  intro Cx hP hnt hl
  have h1 := trimW hi hp
  have h2 := rtrim_lenp ps
  have h3 := pol_sz ps
  have h4 := hp.len
  have h5 := lim2 hi
  have h6 := lim4 hi
  refine awp_sx prog_ok hP hnt [] [] [] [0, 2] (by kernel_rfl) (G := fun K => K (St.mk [(0, V.d (rp ps)), (2, V.ptr 0 0)] [(0, some (Blk.mk [D.bool false, D.lst 0 []] true))] 1)) (fun K => by kernel_rfl) ?_
  refine awp_sx prog_ok hP hnt [] [.val (.d (rp (rtrim ps)))] [] [0, 2] (by kernel_rfl) (G := fun K => Fn Try.prog 161 [V.d (rp ps)] [] (V.d (rp (rtrim ps))) [] ∧ K (St.mk [(0, V.d (rp (rtrim ps))), (2, V.ptr 0 0)] [(0, some (Blk.mk [D.bool false, D.lst 0 []] true))] 4)) (fun K => by kernel_rfl) ?_
  refine ⟨h1, ?_⟩
  refine awp_seq_k fun K hK => ?_
  refine awp_sx prog_ok hP hnt [] [] [] [0, 2, 7] (by kernel_rfl) (G := fun K => K (St.mk [(0, V.d (rp (rtrim ps))), (2, V.ptr 0 0), (7, V.d (D.bool ((↑(rtrim ps).length : Int) == (0 : Int))))] [(0, some (Blk.mk [D.bool false, D.lst 0 []] true))] 7)) (fun K => by kernel_rfl) ?_
  refine awp_cond rfl (fun e => ?_) (fun e => awp_skip (hK _ ?_))
  · simp [h2] at e
    have : pol ps = 0 := Poly.eq_zero.2 e
    rw [this, Poly.lc_zero, iz_zero]
    refine awp_sx prog_ok hP hnt [] [] [] [2] (by kernel_rfl) (G := fun K => 2 ≤ [D.bool false, D.lst 0 []].length ∧ K (St.mk [(2, V.ptr 0 0)] [(0, some (Blk.mk [D.bool false, D.lst 0 []] true))] 9)) (fun K => by kernel_rfl) ?_
    exact ⟨by simp, awp_ret ⟨.inl rfl, retC (l := true) rfl rfl rfl rfl⟩⟩
  · simp [h2] at e
    obtain ⟨p, hp1⟩ := get_ex (l := ps) (i := (pol ps).sz - 1) (by omega)
    have hp2 : (rtrim ps)[(pol ps).sz - 1]? = some p := by rw [rtrim_cp, if_pos (by omega), hp1]
    have hpo := hp.ok p (List.mem_of_getElem? hp1)
    have hlc : ival p.1 p.2 = (pol ps).lc := by rw [Poly.lc, pol_c, co_some hp1]; rfl
    have h7 := inorm_fn p.1 p.2 (by have := hpo.2; omega) hpo.1
    rw [hlc] at h7
    refine awp_sx prog_ok hP hnt [(12, .int .i64 ((pol ps).sz - 1 : Nat))] [.val (.agg (iz (pol ps).lc))] [some [.bool p.1, du p.2]] [2] (by kernel_rfl) (G := fun K => IntKind.i64.wrap ((↑(rtrim ps).length : Int) - (1 : Int)) = (↑((pol ps).sz - 1) : Int) ∧ ((0 : Int) ≤ (↑((pol ps).sz - 1) : Int) ∧ (↑((pol ps).sz - 1) : Int) < (↑(rtrim ps).length : Int) ∧ ((↑((pol ps).sz - 1) : Int).toNat + 1) * 2 ≤ (rc (rtrim ps)).length) ∧ ((List.drop ((↑((pol ps).sz - 1) : Int).toNat * 2) (rc (rtrim ps)))[0]? = some (D.bool p.fst) ∧ (List.drop ((↑((pol ps).sz - 1) : Int).toNat * 2) (rc (rtrim ps)))[1]? = some (du p.snd)) ∧ Fn Try.prog 165 [V.agg [D.bool p.fst, du p.snd]] [] (V.agg [D.bool (decide ((pol ps).lc < (0 : Int))), du (dig (pol ps).lc.natAbs)]) [] ∧ 0 + (iz (pol ps).lc).length ≤ [D.bool false, D.lst 0 []].length ∧ K (St.mk [(2, V.ptr 0 0)] [(0, some (Blk.mk [D.bool (decide ((pol ps).lc < (0 : Int))), du (dig (pol ps).lc.natAbs)] true))] 15)) (fun K => by kernel_rfl) ?_
    exact ⟨by rw [h2, w64] <;> omega, ⟨by omega, by rw [h2]; omega, by rw [rc_len, h2]; omega⟩, by rw [rc_drop0 hp2]; exact ⟨rfl, rfl⟩, h7, by simp [iz], awp_ret ⟨.inl rfl, retC (l := true) rfl rfl rfl rfl⟩⟩

theorem scaleP {i : Nat} {ps : List RI} {s : Bool} {l : List Nat} (hi : i ≤ 12) (hp : W i ps) (hl1 : Dg l) (hl2 : l.length ≤ 40 * 4 ^ i) : Fn Try.prog 67 [.d (rp ps), .agg (ic s l)] [] (.d (rp (cp (Poly.C (ival s l) * pol ps)))) [] := by
  refine fn0 (nt := 28) (res := [.tmp 4]) Try.func67 rfl (by decide) rfl rfl rfl rfl ?_
  intro Cx hP hnt hl
  have h2 := lim2 hi
  have h4 := lim4 hi
  have hln := hp.len
  obtain ⟨f, hf⟩ : ∃ f, f = pol ps := ⟨_, rfl⟩
  obtain ⟨c, hc⟩ : ∃ c, c = ival s l := ⟨_, rfl⟩
  have hfs : f.sz ≤ ps.length := hf ▸ pol_sz ps
  have ht := trimW hi hp
  have htl : (rtrim ps).length = f.sz := by rw [rtrim_lenp, hf]
  have hcb : c.natAbs < 4294967296 ^ (40 * 4 ^ i) := by
    rw [hc]; unfold ival; rw [sgn_abs]
    exact Nat.lt_of_lt_of_le (val_lt hl1) (Nat.pow_le_pow_right (by omega) hl2)
  have hlv : Lv i f := hf ▸ hp.lv
  obtain ⟨h, hh⟩ : ∃ h, h = Poly.C c * f := ⟨_, rfl⟩
  have hhc : ∀ k, h.c k = c * f.c k := fun k => by rw [hh, Poly.Cmul_c]
  have hhl : Lv (i + 1) h := hh ▸ Lv.cmul hcb hlv
  have hhs : h.sz ≤ f.sz := Poly.sz_le fun k hk => by rw [hhc, Poly.above hk]; simp
  rw [← hf, ← hc, ← hh]
  refine awp_sx prog_ok hP hnt [] [] [] [0, 3] (by kernel_rfl) (G := fun K => K (St.mk [(0, V.d (rp ps)), (3, V.ptr 0 0)] [(0, some (Blk.mk [D.bool s, du l] true))] 2)) (fun K => by kernel_rfl) ?_
  refine awp_sx prog_ok hP hnt [(9, .int .i64 f.sz)] [.val (.d (rp (rtrim ps)))] [] [0, 3, 5] (by kernel_rfl) (G := fun K => Fn Try.prog 161 [V.d (rp ps)] [] (V.d (rp (rtrim ps))) [] ∧ (↑(rtrim ps).length : Int) = (↑f.sz : Int) ∧ ((↑f.sz : Int) = (↑f.sz : Int) ∧ (0 : Int) ≤ (↑f.sz : Int) ∧ (↑f.sz : Int) * (↑32 : Int) ≤ (2 : Int) ^ 47) ∧ K (St.mk [(0, V.d (rp ps)), (3, V.ptr 0 0), (5, V.own 5 0 (↑f.sz : Int).toNat 2)] [(0, some (Blk.mk [D.bool s, du l] true)), (5, some (Blk.mk (zeros (↑f.sz : Int).toNat (TI.mk (Kind.struct [(0, 1), (1, 1)]) 2 32 [D.bool false, D.lst 0 []]).zero) true))] 7)) (fun K => by kernel_rfl) ?_
  refine ⟨ht, by rw [htl], by omega, ?_⟩
  refine awp_cut (ι := Unit) (fun _ => ⟨[(5, .own 0 0 f.sz 2)], [(0, some ⟨rc (mz h.c f.sz), true⟩)], 1⟩) (fun _ => True) ?_ ?_
  · refine awp_sx prog_ok hP hnt [] [] [] [0, 3, 5, 12, 13] (by kernel_rfl) (G := fun K => K (St.mk [(0, V.d (rp ps)), (3, V.ptr 0 0), (5, V.own 5 0 (↑f.sz : Int).toNat 2), (12, V.d (D.int IntKind.i64 (↑(↑f.sz : Int).toNat : Int))), (13, V.d (D.int IntKind.i64 (0 : Int)))] [(0, some (Blk.mk [D.bool s, du l] true)), (5, some (Blk.mk (zeros (↑f.sz : Int).toNat (TI.mk (Kind.struct [(0, 1), (1, 1)]) 2 32 [D.bool false, D.lst 0 []]).zero) true))] 10)) (fun K => by kernel_rfl) ?_
    refine awp_block ?_
    refine awp_loop (ι := Nat) (fun i => ⟨[(0, .d (rp ps)), (3, .ptr 0 0), (5, .own 1 0 f.sz 2), (12, .d (.int .i64 f.sz)), (13, .d (.int .i64 i))], [(0, some ⟨ic s l, true⟩), (1, some ⟨rc (mz (part h.c i) f.sz), true⟩)], 2⟩)
      (fun i => i ≤ f.sz) (fun i => f.sz - i) 0 [(0, 0), (1, 5)] (by simp) ?_ ?_
    · rw [Int.toNat_natCast]
      (constructor <;> simp [hl, envOk, memOk, conv, St.get, St.blk, zeros_rc, part_zero, ic])
    intro i hi
    refine awp_sx prog_ok hP hnt [] [] [] [0, 3, 5, 12, 13, 14] (by kernel_rfl) (G := fun K => K (St.mk [(0, V.d (rp ps)), (3, V.ptr 0 0), (5, V.own 1 0 f.sz 2), (12, V.d (D.int IntKind.i64 (↑f.sz : Int))), (13, V.d (D.int IntKind.i64 (↑i : Int))), (14, V.d (D.bool (decide ((↑i : Int) < (↑f.sz : Int)))))] [(0, some (Blk.mk [D.bool s, du l] true)), (1, some (Blk.mk (rc (mz (part h.c i) f.sz)) true))] 3)) (fun K => by kernel_rfl) ?_
    refine awp_seq_k fun K1 hK1 => ?_
    refine awp_cond rfl (fun e => awp_skip (hK1 _ ?_)) (fun e => awp_exit ⟨(), [(0, 1)], trivial, ?_⟩)
    · simp at e
      obtain ⟨p, hp1⟩ := get_ex (l := ps) (i := i) (by omega)
      have hpo := hp.ok p (List.mem_of_getElem? hp1)
      have hfx : ival p.1 p.2 = f.c i := by rw [hf, pol_c, co_some hp1]; rfl
      have h3 := imul_fn s p.1 l p.2 (by omega) (by have := hpo.2; omega) hl1 hpo.1
      rw [hfx, ← hc, ← hhc] at h3
      refine awp_seq_k fun K2 hK2 => ?_
      refine awp_block ?_
      refine awp_sx prog_ok hP hnt [] [] [] [0, 3, 5, 6, 12, 13] (by kernel_rfl) (G := fun K => K (St.mk [(0, V.d (rp ps)), (3, V.ptr 0 0), (5, V.own 1 0 f.sz 2), (12, V.d (D.int IntKind.i64 (↑f.sz : Int))), (13, V.d (D.int IntKind.i64 (↑i : Int))), (6, V.d (D.int IntKind.i64 (↑i : Int)))] [(0, some (Blk.mk [D.bool s, du l] true)), (1, some (Blk.mk (rc (mz (part h.c i) f.sz)) true))] 5)) (fun K => by kernel_rfl) ?_
      refine awp_x prog_ok hP hnt [] [.val (.agg (iz (h.c i)))] [some (ic s l), some [.bool p.1, du p.2]] [0, 3, 5, 12, 13] (by kernel_rfl) (G := fun K => ([D.bool s, du l][0]? = some (D.bool s) ∧ [D.bool s, du l][1]? = some (du l)) ∧ ((0 : Int) ≤ (↑i : Int) ∧ (↑i : Int) < (↑ps.length : Int) ∧ ((↑i : Int).toNat + 1) * 2 ≤ (rc ps).length) ∧ ((List.drop ((↑i : Int).toNat * 2) (rc ps))[0]? = some (D.bool p.fst) ∧ (List.drop ((↑i : Int).toNat * 2) (rc ps))[1]? = some (du p.snd)) ∧ Fn Try.prog 123 [V.agg [D.bool s, du l], V.agg [D.bool p.fst, du p.snd]] [] (V.agg [D.bool (decide (h.c i < (0 : Int))), du (dig (h.c i).natAbs)]) [] ∧ ((0 : Int) ≤ (↑i : Int) ∧ (↑i : Int) < (↑f.sz : Int)) ∧ 0 + (↑i : Int).toNat * 2 + (iz (h.c i)).length ≤ (rc (mz (part h.c i) f.sz)).length ∧ K (St.mk [(0, V.d (rp ps)), (3, V.ptr 0 0), (5, V.own 1 0 f.sz 2), (12, V.d (D.int IntKind.i64 (↑f.sz : Int))), (13, V.d (D.int IntKind.i64 (↑i : Int)))] [(0, some (Blk.mk [D.bool s, du l] true)), (1, some (Blk.mk (setCells (rc (mz (part h.c i) f.sz)) (0 + (↑i : Int).toNat * 2) (iz (h.c i))) true))] 15)) (fun K => by kernel_rfl) ?_
      have hsc := setCells_rc (mz (part h.c i) f.sz) i (riz (h.c i))
      rw [part_set, ic_riz] at hsc
      refine ⟨⟨rfl, rfl⟩, ⟨by omega, by omega, by simp; omega⟩, by rw [rc_drop0 hp1]; exact ⟨rfl, rfl⟩, h3, ⟨by omega, by omega⟩, ?_, hK2 _ ?_⟩
      · rw [rc_len, mz_len, Int.toNat_natCast, Nat.zero_add]; show i * 2 + 2 ≤ f.sz * 2; omega
      refine awp_x prog_ok hP hnt [(25, .int .i64 (i + 1 : Nat))] [] [] [0, 3, 5, 12, 13] (by kernel_rfl) (G := fun K => IntKind.i64.wrap ((↑i : Int) + (1 : Int)) = (↑(i + 1) : Int) ∧ K (St.mk [(0, V.d (rp ps)), (3, V.ptr 0 0), (5, V.own 1 0 f.sz 2), (12, V.d (D.int IntKind.i64 (↑f.sz : Int))), (13, V.d (D.int IntKind.i64 (↑(i + 1) : Int)))] [(0, some (Blk.mk [D.bool s, du l] true)), (1, some (Blk.mk (setCells (rc (mz (part h.c i) f.sz)) (0 + (↑i : Int).toNat * 2) (iz (h.c i))) true))] 17)) (fun K => by kernel_rfl) ?_
      refine ⟨by rw [w64] <;> omega, i + 1, [(0, 0), (1, 1)], ⟨by omega, by omega⟩, ?_⟩
      rw [Int.toNat_natCast, Nat.zero_add, hsc]
      (constructor <;> simp [hl, envOk, memOk, conv, St.get, St.blk, ic])
    · simp at e
      have : i = f.sz := by omega
      subst this
      (constructor <;> simp [hl, envOk, memOk, conv, St.get, St.blk, part_all])
  intro _ _
  have ht2 := utrim_fn (mz h.c f.sz) (by simp; omega) (pok_mono (by rw [Nat.pow_succ]; omega) (mz_ok hhl.ok))
  rw [rtrim_mz, can_eq (f := h) (fun _ => rfl) hhs] at ht2
  refine awp_sx prog_ok hP hnt [] [.val (.d (rp (cp h)))] [] [4] (by kernel_rfl) (G := fun K => Fn Try.prog 161 [V.d (D.lst f.sz (List.take (f.sz * 2) (List.drop 0 (rc (mz h.c f.sz)))))] [] (V.d (rp (cp h))) [] ∧ K (St.mk [(4, V.d (rp (cp h)))] [(0, some (Blk.mk (rc (mz h.c f.sz)) false))] 4)) (fun K => by kernel_rfl) ?_
  refine ⟨?_, awp_ret ⟨.inl rfl, retD rfl⟩⟩
  rw [own_rp (by simp)]
  exact ht2
end Go.Abs

set_option linter.unusedVariables false
set_option linter.unusedSimpArgs false
namespace Go.Abs
open Go Go.Proofs
set_option maxRecDepth 100000

theorem W.dg {i : Nat} {ps : List RI} (hi : i ≤ 12) (h : W i ps) : ∀ p ∈ ps, Dg p.2 ∧ p.2.length ≤ 2 ^ 34 := fun p hp => ⟨(h.ok p hp).1, by have := (h.ok p hp).2; have := lim4 hi; omega⟩
theorem ofL {i : Nat} {ps : List RI} (hi : i ≤ 12) (h : W i ps) : Fn Try.prog 40 [.d (rp ps)] [] (.d (zl (cs (pol ps)))) [] :=
  lof_fn ps (h.dg hi) (by have := h.len; have := lim2 hi; omega)
theorem isL {i : Nat} {f g : Poly} (hi : i ≤ 12) (hf : Lv i f) (hg : Lv i g) (e : f = g) : Fn Try.prog 43 [.d (rp (cp f)), .d (zl (cs g))] [] (.d (.bool true)) [] := by
  have := lis_fn (cp f) g (fun p hp => by have := (hf.w.ok p hp).2; have := lim4 hi; omega) (by have := hf.w.len; have := lim2 hi; omega) (K := 1280 * 4 ^ i) (by have := lim4 hi; omega) hg.bits
  rwa [decide_eq_true (by rw [e])] at this
theorem zmulL {i : Nat} {f g : Poly} (hi : i ≤ 10) (hf : Lv i f) (hg : Lv i g) : Fn Try.prog 42 [.d (zl (cs f)), .d (zl (cs g))] [] (.d (zl (cs (f * g)))) [] :=
  zpmul_fn f g (K := 1280 * 4 ^ i) (by have : 4 ^ i ≤ 1048576 := Nat.le_trans (p4 hi) (by decide)
                                       omega) hf.bits hg.bits (by have := hf.len; have := lim2 (i := i) (by omega); omega) (by have := hg.len; have := lim2 (i := i) (by omega); omega)
theorem zderL {i : Nat} {f : Poly} (hi : i ≤ 10) (hf : Lv i f) : Fn Try.prog 47 [.d (zl (cs f))] [] (.d (zl (cs f.der))) [] :=
  zpder_fn f (K := 1280 * 4 ^ i) (by have : 4 ^ i ≤ 1048576 := Nat.le_trans (p4 hi) (by decide)
                                     omega) (by have := Nat.pow_pos (n := i) (a := 4) (by omega); omega) hf.bits (by have := hf.len; have := lim2 (i := i) (by omega); omega)

theorem cs_one : cs (1 : Poly) = [1] := by
  have : (1 : Poly).sz = 1 := Poly.sz_C (by decide)
  unfold cs
  rw [this]; rfl
theorem muls_fn (a b : List RI) (n : Int) (da : ∀ p ∈ a, Dg p.2) (db : ∀ p ∈ b, Dg p.2) (hn : -9223372036854775808 ≤ n ∧ n ≤ 9223372036854775807) :
    Fn Try.prog 3 [.d (rp a), .d (rp b), .d (.int .i64 n)] [] (.d (.bool true)) [] := by
  refine fn0 (nt := 63) (res := [.tmp 6]) Try.func3 rfl (by decide) rfl rfl rfl rfl ?_
  intro Cx hP hnt hl
  have fa := few_fn 8 3 a (by omega) (by omega)
  have fb := few_fn 8 3 b (by omega) (by omega)
  refine awp_sx prog_ok hP hnt [] [] [] [0, 1, 2] (by kernel_rfl) (G := fun K => K (St.mk [(0, V.d (rp a)), (1, V.d (rp b)), (2, V.d (D.int IntKind.i64 n))] [] 1)) (fun K => by kernel_rfl) ?_
  refine awp_cut (ι := Unit) (fun _ => ⟨[(0, .d (rp a)), (1, .d (rp b)), (2, .d (.int .i64 n))], [], 0⟩) (fun _ => few 8 3 a = true ∧ few 8 3 b = true ∧ n ≤ 5) ?_ ?_
  · cases ea : few 8 3 a with
    | false =>
      rw [ea] at fa
      refine awp_sx prog_ok hP hnt [(12, .bool false), (17, .bool true), (22, .bool true)] [.val (.d (.bool true)), .val (.d (.bool false))] [] [0, 1, 2, 26] (by kernel_rfl) (G := fun K => Fn Try.prog 38 [] [] (V.d (D.bool true)) [] ∧ (!true) = false ∧ Fn Try.prog 39 [V.d (D.int IntKind.i64 (8 : Int)), V.d (D.int IntKind.i64 (3 : Int)), V.d (rp a)] [] (V.d (D.bool false)) [] ∧ (!false) = true ∧ true = true ∧ K (St.mk [(0, V.d (rp a)), (1, V.d (rp b)), (2, V.d (D.int IntKind.i64 n)), (26, V.d (D.bool true))] [] 17)) (fun K => by kernel_rfl) ?_
      refine ⟨awake_fn, rfl, fa, rfl, rfl, awp_cond (b := true) rfl (fun _ => ?_) nofun⟩
      refine awp_sx prog_ok hP hnt [] [.val (.d (.bool true))] [] [6] (by kernel_rfl) (G := fun K => Fn Try.prog 38 [] [] (V.d (D.bool true)) [] ∧ K (St.mk [(6, V.d (D.bool true))] [] 19)) (fun K => by kernel_rfl) ?_
      exact ⟨awake_fn, awp_ret ⟨.inl rfl, retD rfl⟩⟩
    | true =>
      rw [ea] at fa
      cases eb : few 8 3 b with
      | false =>
        rw [eb] at fb
        refine awp_sx prog_ok hP hnt [(12, .bool false), (17, .bool false), (22, .bool true)] [.val (.d (.bool true)), .val (.d (.bool true)), .val (.d (.bool false))] [] [0, 1, 2, 26] (by kernel_rfl) (G := fun K => Fn Try.prog 38 [] [] (V.d (D.bool true)) [] ∧ (!true) = false ∧ Fn Try.prog 39 [V.d (D.int IntKind.i64 (8 : Int)), V.d (D.int IntKind.i64 (3 : Int)), V.d (rp a)] [] (V.d (D.bool true)) [] ∧ (!true) = false ∧ Fn Try.prog 39 [V.d (D.int IntKind.i64 (8 : Int)), V.d (D.int IntKind.i64 (3 : Int)), V.d (rp b)] [] (V.d (D.bool false)) [] ∧ (!false) = true ∧ K (St.mk [(0, V.d (rp a)), (1, V.d (rp b)), (2, V.d (D.int IntKind.i64 n)), (26, V.d (D.bool true))] [] 17)) (fun K => by kernel_rfl) ?_
        refine ⟨awake_fn, rfl, fa, rfl, fb, rfl, awp_cond (b := true) rfl (fun _ => ?_) nofun⟩
        refine awp_sx prog_ok hP hnt [] [.val (.d (.bool true))] [] [6] (by kernel_rfl) (G := fun K => Fn Try.prog 38 [] [] (V.d (D.bool true)) [] ∧ K (St.mk [(6, V.d (D.bool true))] [] 19)) (fun K => by kernel_rfl) ?_
        exact ⟨awake_fn, awp_ret ⟨.inl rfl, retD rfl⟩⟩
      | true =>
        rw [eb] at fb
        refine awp_sx prog_ok hP hnt [(12, .bool false), (17, .bool false), (22, .bool false)] [.val (.d (.bool true)), .val (.d (.bool true)), .val (.d (.bool true))] [] [0, 1, 2, 26] (by kernel_rfl) (G := fun K => Fn Try.prog 38 [] [] (V.d (D.bool true)) [] ∧ (!true) = false ∧ Fn Try.prog 39 [V.d (D.int IntKind.i64 (8 : Int)), V.d (D.int IntKind.i64 (3 : Int)), V.d (rp a)] [] (V.d (D.bool true)) [] ∧ (!true) = false ∧ Fn Try.prog 39 [V.d (D.int IntKind.i64 (8 : Int)), V.d (D.int IntKind.i64 (3 : Int)), V.d (rp b)] [] (V.d (D.bool true)) [] ∧ (!true) = false ∧ K (St.mk [(0, V.d (rp a)), (1, V.d (rp b)), (2, V.d (D.int IntKind.i64 n)), (26, V.d (D.bool (decide (n > (5 : Int)))))] [] 17)) (fun K => by kernel_rfl) ?_
        refine ⟨awake_fn, rfl, fa, rfl, fb, rfl, awp_cond rfl (fun h => ?_) (fun h => awp_skip ⟨(), [], ⟨rfl, rfl, by simpa using h⟩, ?_⟩)⟩
        · refine awp_sx prog_ok hP hnt [] [.val (.d (.bool true))] [] [6] (by kernel_rfl) (G := fun K => Fn Try.prog 38 [] [] (V.d (D.bool true)) [] ∧ K (St.mk [(6, V.d (D.bool true))] [] 19)) (fun K => by kernel_rfl) ?_
          exact ⟨awake_fn, awp_ret ⟨.inl rfl, retD rfl⟩⟩
        · (constructor <;> simp [hl, envOk, memOk, conv, St.get, St.blk])
  intro _ ⟨ea, eb, en⟩
  have wa := few_w da ea (by omega) (by omega)
  have wb := few_w db eb (by omega) (by omega)
  obtain ⟨f, hf⟩ : ∃ f, f = pol a := ⟨_, rfl⟩
  obtain ⟨g, hg⟩ : ∃ g, g = pol b := ⟨_, rfl⟩
  have lf : Lv 0 f := hf ▸ wa.lv
  have lg : Lv 0 g := hg ▸ wb.lv
  have oa := ofL (by omega) wa
  have ob := ofL (by omega) wb
  have hm := mulP (by omega) wa wb
  have hpw := powP (i := 0) (m := 3) (n := n) (by omega) wa (by omega)
  have hd := derP (by omega) wa
  rw [← hf] at oa hpw hd
  rw [← hg] at ob
  rw [← hf, ← hg] at hm
  obtain ⟨N, hN⟩ : ∃ N, N = n.toNat := ⟨_, rfl⟩
  have hN5 : N ≤ 5 := by omega
  rw [← hN] at hpw
  have lpow : ∀ k, k ≤ 5 → Lv 3 (Poly.ppow f k) := fun k hk => by
    have := Lv.pow (i := 0) (m := 3) k lf (by omega) (by omega)
    exact this
  have hone := zsmall_fn 1 (by decide)
  refine awp_sx prog_ok hP hnt [] [.val (.d (zl (cs f))), .val (.d (zl (cs g)))] [] [0, 1, 2, 7, 8] (by kernel_rfl) (G := fun K => Fn Try.prog 40 [V.d (rp a)] [] (V.d (zl (cs f))) [] ∧ Fn Try.prog 40 [V.d (rp b)] [] (V.d (zl (cs g))) [] ∧ K (St.mk [(0, V.d (rp a)), (1, V.d (rp b)), (2, V.d (D.int IntKind.i64 n)), (7, V.d (zl (cs f))), (8, V.d (zl (cs g)))] [] 6)) (fun K => by kernel_rfl) ?_
  refine ⟨oa, ob, ?_⟩
  refine awp_sx prog_ok hP hnt [] [.val (.agg (zc 1))] [] [0, 1, 2, 7, 8, 9] (by kernel_rfl) (G := fun K => Fn Try.prog 41 [V.d (D.int IntKind.i64 (1 : Int))] [] (V.agg [D.int IntKind.i64 (Int.sign (1 : Int)), ib (Abs.db 2 (Int.natAbs (1 : Int)))]) [] ∧ K (St.mk [(0, V.d (rp a)), (1, V.d (rp b)), (2, V.d (D.int IntKind.i64 n)), (7, V.d (zl (cs f))), (8, V.d (zl (cs g))), (9, V.d (D.lst 1 [D.int IntKind.i64 (Int.sign (1 : Int)), ib (Abs.db 2 (Int.natAbs (1 : Int)))]))] [] 9)) (fun K => by kernel_rfl) ?_
  refine ⟨hone, ?_⟩
  have hz1 : zl (cs 1) = D.lst 1 [D.int IntKind.i64 (Int.sign 1), ib (Abs.db 2 (Int.natAbs 1))] := by rw [cs_one]; rfl
  refine awp_cut (ι := Unit) (fun _ => ⟨[(0, .d (rp a)), (1, .d (rp b)), (2, .d (.int .i64 n)), (7, .d (zl (cs f))), (8, .d (zl (cs g))), (9, .d (zl (cs (Poly.ppow f N))))], [], 0⟩) (fun _ => True) ?_ ?_
  · refine awp_sx prog_ok hP hnt [] [] [] [0, 1, 2, 7, 8, 9, 10] (by kernel_rfl) (G := fun K => K (St.mk [(0, V.d (rp a)), (1, V.d (rp b)), (2, V.d (D.int IntKind.i64 n)), (7, V.d (zl (cs f))), (8, V.d (zl (cs g))), (9, V.d (D.lst 1 [D.int IntKind.i64 (Int.sign (1 : Int)), ib (Abs.db 2 (Int.natAbs (1 : Int)))])), (10, V.d (D.int IntKind.i64 (0 : Int)))] [] 10)) (fun K => by kernel_rfl) ?_
    refine awp_block ?_
    refine awp_loop (ι := Nat) (fun i => ⟨[(0, .d (rp a)), (1, .d (rp b)), (2, .d (.int .i64 n)), (7, .d (zl (cs f))), (8, .d (zl (cs g))), (9, .d (zl (cs (Poly.ppow f i)))), (10, .d (.int .i64 i))], [], 0⟩) (fun i => i ≤ N) (fun i => N - i) 0 [] (by simp) ?_ ?_
    · (constructor <;> simp [hl, envOk, memOk, conv, St.get, St.blk, Poly.ppow, hz1])
    intro i hi
    refine awp_seq_k fun K hK => ?_
    refine awp_sx prog_ok hP hnt [] [] [] [0, 1, 2, 7, 8, 9, 10, 36] (by kernel_rfl) (G := fun K => K (St.mk [(0, V.d (rp a)), (1, V.d (rp b)), (2, V.d (D.int IntKind.i64 n)), (7, V.d (zl (cs f))), (8, V.d (zl (cs g))), (9, V.d (zl (cs (f.ppow i)))), (10, V.d (D.int IntKind.i64 (↑i : Int))), (36, V.d (D.bool (decide ((↑i : Int) < n))))] [] 3)) (fun K => by kernel_rfl) ?_
    refine awp_cond rfl (fun e => awp_skip (hK _ ?_)) (fun e => awp_exit ⟨(), [], trivial, ?_⟩)
    · simp at e
      refine awp_seq_k fun K2 hK2 => ?_
      refine awp_block ?_
      refine awp_x prog_ok hP hnt [] [.val (.d (zl (cs (Poly.ppow f (i + 1)))))] [] [0, 1, 2, 7, 8, 9, 10] (by kernel_rfl) (G := fun K => Fn Try.prog 42 [V.d (zl (cs (f.ppow i))), V.d (zl (cs f))] [] (V.d (zl (cs (f.ppow (i + 1))))) [] ∧ K (St.mk [(0, V.d (rp a)), (1, V.d (rp b)), (2, V.d (D.int IntKind.i64 n)), (7, V.d (zl (cs f))), (8, V.d (zl (cs g))), (9, V.d (zl (cs (f.ppow (i + 1))))), (10, V.d (D.int IntKind.i64 (↑i : Int)))] [] 7)) (fun K => by kernel_rfl) ?_
      refine ⟨zmulL (i := 3) (by omega) (lpow i (by omega)) (lf.mono (by omega)), hK2 _ ?_⟩
      refine awp_x prog_ok hP hnt [(38, .int .i64 (i + 1 : Nat))] [] [] [0, 1, 2, 7, 8, 9, 10] (by kernel_rfl) (G := fun K => IntKind.i64.wrap ((↑i : Int) + (1 : Int)) = (↑(i + 1) : Int) ∧ K (St.mk [(0, V.d (rp a)), (1, V.d (rp b)), (2, V.d (D.int IntKind.i64 n)), (7, V.d (zl (cs f))), (8, V.d (zl (cs g))), (9, V.d (zl (cs (f.ppow (i + 1))))), (10, V.d (D.int IntKind.i64 (↑(i + 1) : Int)))] [] 10)) (fun K => by kernel_rfl) ?_
      refine ⟨by rw [w64] <;> omega, i + 1, [], ⟨by omega, by omega⟩, ?_⟩
      (constructor <;> simp [hl, envOk, memOk, conv, St.get, St.blk])
    · simp at e
      have : i = N := by omega
      subst this
      (constructor <;> simp [hl, envOk, memOk, conv, St.get, St.blk])
  intro _ _
  have m1 := Lv.mul (by omega) lf lg
  refine awp_sx prog_ok hP hnt [] [.val (.d (rp (cp (f * g)))), .val (.d (zl (cs (f * g)))), .val (.d (.bool true)), .val (.d (rp (cp (Poly.ppow f N)))), .val (.d (.bool true)), .val (.d (rp (cp f.der))), .val (.d (zl (cs f.der))), .val (.d (.bool true))] [] [6] (by kernel_rfl) (G := fun K => Fn Try.prog 44 [V.d (rp a), V.d (rp b)] [] (V.d (rp (cp (f * g)))) [] ∧ Fn Try.prog 42 [V.d (zl (cs f)), V.d (zl (cs g))] [] (V.d (zl (cs (f * g)))) [] ∧ Fn Try.prog 43 [V.d (rp (cp (f * g))), V.d (zl (cs (f * g)))] [] (V.d (D.bool true)) [] ∧ Fn Try.prog 45 [V.d (rp a), V.d (D.int IntKind.i64 n)] [] (V.d (rp (cp (f.ppow N)))) [] ∧ Fn Try.prog 43 [V.d (rp (cp (f.ppow N))), V.d (zl (cs (f.ppow N)))] [] (V.d (D.bool true)) [] ∧ Fn Try.prog 46 [V.d (rp a)] [] (V.d (rp (cp f.der))) [] ∧ Fn Try.prog 47 [V.d (zl (cs f))] [] (V.d (zl (cs f.der))) [] ∧ Fn Try.prog 43 [V.d (rp (cp f.der)), V.d (zl (cs f.der))] [] (V.d (D.bool true)) [] ∧ K (St.mk [(6, V.d (D.bool true))] [] 22)) (fun K => by kernel_rfl) ?_
  exact ⟨hm, zmulL (i := 0) (by omega) lf lg, isL (i := 1) (by omega) m1 m1 rfl, hpw, isL (i := 3) (by omega) (lpow N hN5) (lpow N hN5) rfl, hd, zderL (i := 0) (by omega) lf, isL (i := 1) (by omega) (Lv.der (by omega) lf) (Lv.der (by omega) lf) rfl, awp_ret ⟨.inl rfl, retD rfl⟩⟩
end Go.Abs

set_option linter.unusedVariables false
set_option linter.unusedSimpArgs false
namespace Go.Abs
open Go Go.Proofs
set_option maxRecDepth 100000

theorem pow32 {K E : Nat} (h : K ≤ 32 * E) : 2 ^ K ≤ 4294967296 ^ E := by
  rw [show (4294967296 : Nat) = 2 ^ 32 by rfl, ← Nat.pow_mul]
  exact Nat.pow_le_pow_right (by omega) h
theorem b32 {x i : Nat} (h : x < 4294967296 ^ (40 * 4 ^ i)) : x < 2 ^ (1280 * 4 ^ i) := by
  rwa [show (4294967296 : Nat) = 2 ^ 32 by rfl, ← Nat.pow_mul, show 32 * (40 * 4 ^ i) = 1280 * 4 ^ i by omega] at h
theorem m1bits {K : Nat} (h : 1 ≤ K) : ((-1 : Int)).natAbs < 2 ^ K := by
  have := Nat.pow_le_pow_right (n := 2) (by omega) h
  rw [Nat.pow_one] at this
  show 1 < 2 ^ K
  omega
theorem m1big {i : Nat} : ((-1 : Int)).natAbs < 4294967296 ^ (40 * 4 ^ i) := by
  have h4 := Nat.pow_pos (n := i) (a := 4) (by omega)
  have := Nat.pow_le_pow_right (n := 4294967296) (show 4294967296 > 0 by omega) (show 1 ≤ 40 * 4 ^ i by omega)
  rw [Nat.pow_one] at this
  show 1 < 4294967296 ^ (40 * 4 ^ i)
  omega
/-- the greatest absolute value -/
def mxa (F : Nat → Int) : Nat → Nat
  | 0 => 0
  | n + 1 => max (mxa F n) (F n).natAbs
theorem mxa_lt {F : Nat → Int} {B : Nat} (h0 : 0 < B) (h : ∀ k, (F k).natAbs < B) : ∀ n, mxa F n < B
  | 0 => h0
  | n + 1 => by rw [mxa]; have := mxa_lt h0 h n; have := h n; omega
theorem mxa_more {F : Nat → Int} {n : Nat} : ∀ {m : Nat}, n ≤ m → (∀ k, n ≤ k → F k = 0) → mxa F m = mxa F n
  | 0, h, _ => by rw [Nat.le_zero.1 h]
  | m + 1, h, hz => by
    by_cases e : n = m + 1
    · rw [e]
    · rw [mxa, hz m (by omega), mxa_more (m := m) (by omega) hz]; simp
/-- the height -/
noncomputable def hgt (f : Poly) : Nat := mxa f.c f.sz

theorem cmpZ_pos {x y : Int} : 0 < cmpZ x y ↔ y < x := by
  unfold cmpZ
  split
  · omega
  · split
    · omega
    · omega
theorem heightP {v : Nat} {ps : List RI} (hv : v ≤ 12) (hp : W v ps) : Fn Try.prog 61 [.d (rp ps)] [] (.agg (iz (hgt (pol ps)))) [] := by
  refine fn0 (nt := 23) (res := [.cell 2 46]) Try.func61 rfl (by decide) rfl rfl rfl rfl ?_
  intro Cx hP hnt hl
  have h2 := lim2 hv
  have h4 := lim4 hv
  have hln := hp.len
  obtain ⟨F, hF⟩ : ∃ F : Nat → Int, F = (pol ps).c := ⟨_, rfl⟩
  have hfin : mxa F ps.length = hgt (pol ps) := by rw [hF]; exact mxa_more (pol_sz ps) (fun k hk => Poly.above hk)
  have hB : ∀ n, mxa F n < 4294967296 ^ (40 * 4 ^ v) := mxa_lt (Nat.pow_pos (by omega)) (fun k => by rw [hF]; exact hp.lv.ok k)
  rw [← hfin]
  refine awp_sx prog_ok hP hnt [] [] [] [0, 2] (by kernel_rfl) (G := fun K => K (St.mk [(0, V.d (rp ps)), (2, V.ptr 0 0)] [(0, some (Blk.mk [D.bool false, D.lst 0 []] true))] 1)) (fun K => by kernel_rfl) ?_
  refine awp_sx prog_ok hP hnt [] [] [] [0, 2, 3] (by kernel_rfl) (G := fun K => 2 ≤ (TI.mk (Kind.struct [(0, 1), (1, 1)]) 2 32 [D.bool false, D.lst 0 []]).zero.length ∧ K (St.mk [(0, V.d (rp ps)), (2, V.ptr 0 0), (3, V.ptr 2 0)] [(0, some (Blk.mk [D.bool false, D.lst 0 []] true)), (2, some (Blk.mk [D.bool false, D.lst 0 []] true))] 4)) (fun K => by kernel_rfl) ?_
  refine ⟨by simp, ?_⟩
  refine awp_cut (ι := Unit) (fun _ => ⟨[(2, .ptr 0 0), (3, .ptr 1 0)], [(0, some ⟨[.bool false, .lst 0 []], true⟩), (1, some ⟨iz (mxa F ps.length), true⟩)], 2⟩) (fun _ => True) ?_ ?_
  · refine awp_sx prog_ok hP hnt [] [] [] [2, 3, 8, 9, 10] (by kernel_rfl) (G := fun K => K (St.mk [(2, V.ptr 0 0), (3, V.ptr 2 0), (8, V.d (rp ps)), (9, V.d (D.int IntKind.i64 (↑ps.length : Int))), (10, V.d (D.int IntKind.i64 (0 : Int)))] [(0, some (Blk.mk [D.bool false, D.lst 0 []] true)), (2, some (Blk.mk [D.bool false, D.lst 0 []] true))] 7)) (fun K => by kernel_rfl) ?_
    refine awp_block ?_
    refine awp_loop (ι := Nat) (fun i => ⟨[(2, .ptr 0 0), (3, .ptr 1 0), (8, .d (rp ps)), (9, .d (.int .i64 ps.length)), (10, .d (.int .i64 i))], [(0, some ⟨[.bool false, .lst 0 []], true⟩), (1, some ⟨iz (mxa F i), true⟩)], 2⟩)
      (fun i => i ≤ ps.length) (fun i => ps.length - i) 0 [(0, 0), (1, 2)] (by simp) ?_ ?_
    · have : iz ((mxa F 0 : Nat) : Int) = [D.bool false, D.lst 0 []] := iz_zero
      (constructor <;> simp [hl, envOk, memOk, conv, St.get, St.blk, this])
    intro i hi
    refine awp_sx prog_ok hP hnt [] [] [] [2, 3, 8, 9, 10, 11] (by kernel_rfl) (G := fun K => K (St.mk [(2, V.ptr 0 0), (3, V.ptr 1 0), (8, V.d (rp ps)), (9, V.d (D.int IntKind.i64 (↑ps.length : Int))), (10, V.d (D.int IntKind.i64 (↑i : Int))), (11, V.d (D.bool (decide ((↑i : Int) < (↑ps.length : Int)))))] [(0, some (Blk.mk [D.bool false, D.lst 0 []] true)), (1, some (Blk.mk [D.bool (decide ((↑(mxa F i) : Int) < (0 : Int))), du (dig (↑(mxa F i) : Int).natAbs)] true))] 3)) (fun K => by kernel_rfl) ?_
    refine awp_seq_k fun K1 hK1 => ?_
    refine awp_cond rfl (fun e => awp_skip (hK1 _ ?_)) (fun e => awp_exit ⟨(), [(0, 0), (1, 1)], trivial, ?_⟩)
    · simp at e
      obtain ⟨p, hp1⟩ := get_ex (l := ps) (i := i) (by omega)
      have hpo := hp.ok p (List.mem_of_getElem? hp1)
      have hfx : ival p.1 p.2 = F i := by rw [hF, pol_c, co_some hp1]; rfl
      have ha := iabs_fn p.1 p.2 (by have := hpo.2; omega) hpo.1
      rw [hfx] at ha
      obtain ⟨x, hx⟩ : ∃ x, x = (F i).natAbs := ⟨_, rfl⟩
      obtain ⟨y, hy⟩ : ∃ y, y = mxa F i := ⟨_, rfl⟩
      have hxb : x < 4294967296 ^ (40 * 4 ^ v) := by rw [hx, hF]; exact hp.lv.ok i
      have hyb := hB i
      rw [← hy] at hyb
      have h1 := riz_ok (z := (x : Int)) (by simpa using hxb)
      have h2 := riz_ok (z := (y : Int)) (by simpa using hyb)
      have hc := icmp_fn (riz x).1 (riz y).1 (riz x).2 (riz y).2 (by have := h1.2; omega) (by have := h2.2; omega) h1.1 h2.1
      rw [show ival (riz x).1 (riz x).2 = x from rval_riz _, show ival (riz y).1 (riz y).2 = y from rval_riz _] at hc
      have hm : mxa F (i + 1) = max y x := by rw [mxa, ← hx, ← hy]
      rw [← hx] at ha
      rw [← hy]
      refine awp_seq_k fun K2 hK2 => ?_
      refine awp_block ?_
      refine awp_sx prog_ok hP hnt [] [] [some [.bool p.1, du p.2]] [2, 3, 5, 8, 9, 10] (by kernel_rfl) (G := fun K => ((0 : Int) ≤ (↑i : Int) ∧ (↑i : Int) < (↑ps.length : Int) ∧ ((↑i : Int).toNat + 1) * 2 ≤ (rc ps).length) ∧ ((List.drop ((↑i : Int).toNat * 2) (rc ps))[0]? = some (D.bool p.fst) ∧ (List.drop ((↑i : Int).toNat * 2) (rc ps))[1]? = some (du p.snd)) ∧ 0 + [D.bool p.fst, du p.snd].length ≤ (TI.mk (Kind.struct [(0, 1), (1, 1)]) 2 32 [D.bool false, D.lst 0 []]).zero.length ∧ K (St.mk [(2, V.ptr 0 0), (3, V.ptr 1 0), (8, V.d (rp ps)), (9, V.d (D.int IntKind.i64 (↑ps.length : Int))), (10, V.d (D.int IntKind.i64 (↑i : Int))), (5, V.ptr 5 0)] [(0, some (Blk.mk [D.bool false, D.lst 0 []] true)), (1, some (Blk.mk [D.bool (decide ((↑y : Int) < (0 : Int))), du (dig (↑y : Int).natAbs)] true)), (5, some (Blk.mk [D.bool p.fst, du p.snd] true))] 7)) (fun K => by kernel_rfl) ?_
      refine ⟨⟨by omega, by omega, by simp; omega⟩, by rw [rc_drop0 hp1]; exact ⟨rfl, rfl⟩, by simp, ?_⟩
      refine awp_sx prog_ok hP hnt [] [.val (.agg (iz x))] [] [2, 3, 6, 8, 9, 10] (by kernel_rfl) (G := fun K => Fn Try.prog 168 [V.agg [D.bool p.fst, du p.snd]] [] (V.agg [D.bool (decide ((↑x : Int) < (0 : Int))), du (dig (↑x : Int).natAbs)]) [] ∧ 0 + (iz (↑x : Int)).length ≤ (TI.mk (Kind.struct [(0, 1), (1, 1)]) 2 32 [D.bool false, D.lst 0 []]).zero.length ∧ K (St.mk [(2, V.ptr 0 0), (3, V.ptr 1 0), (8, V.d (rp ps)), (9, V.d (D.int IntKind.i64 (↑ps.length : Int))), (10, V.d (D.int IntKind.i64 (↑i : Int))), (6, V.ptr 9 0)] [(0, some (Blk.mk [D.bool false, D.lst 0 []] true)), (1, some (Blk.mk [D.bool (decide ((↑y : Int) < (0 : Int))), du (dig (↑y : Int).natAbs)] true)), (5, some (Blk.mk [D.bool p.fst, du p.snd] true)), (9, some (Blk.mk [D.bool (decide ((↑x : Int) < (0 : Int))), du (dig (↑x : Int).natAbs)] true))] 11)) (fun K => by kernel_rfl) ?_
      refine ⟨ha, by simp [iz], ?_⟩
      refine awp_sx prog_ok hP hnt [] [.val (.d (.int .i64 (cmpZ x y)))] [some (iz x), some (iz y)] [2, 3, 6, 8, 9, 10, 19] (by kernel_rfl) (G := fun K => ([D.bool (decide ((↑x : Int) < (0 : Int))), du (dig (↑x : Int).natAbs)][0]? = some (D.bool (decide ((↑x : Int) < (0 : Int)))) ∧ [D.bool (decide ((↑x : Int) < (0 : Int))), du (dig (↑x : Int).natAbs)][1]? = some (du (dig (↑x : Int).natAbs))) ∧ ([D.bool (decide ((↑y : Int) < (0 : Int))), du (dig (↑y : Int).natAbs)][0]? = some (D.bool (decide ((↑y : Int) < (0 : Int)))) ∧ [D.bool (decide ((↑y : Int) < (0 : Int))), du (dig (↑y : Int).natAbs)][1]? = some (du (dig (↑y : Int).natAbs))) ∧ Fn Try.prog 143 [V.agg [D.bool (decide ((↑x : Int) < (0 : Int))), du (dig (↑x : Int).natAbs)], V.agg [D.bool (decide ((↑y : Int) < (0 : Int))), du (dig (↑y : Int).natAbs)]] [] (V.d (D.int IntKind.i64 (cmpZ (↑x : Int) (↑y : Int)))) [] ∧ K (St.mk [(2, V.ptr 0 0), (3, V.ptr 1 0), (8, V.d (rp ps)), (9, V.d (D.int IntKind.i64 (↑ps.length : Int))), (10, V.d (D.int IntKind.i64 (↑i : Int))), (6, V.ptr 9 0), (19, V.d (D.bool (decide (cmpZ (↑x : Int) (↑y : Int) > (0 : Int)))))] [(0, some (Blk.mk [D.bool false, D.lst 0 []] true)), (1, some (Blk.mk [D.bool (decide ((↑y : Int) < (0 : Int))), du (dig (↑y : Int).natAbs)] true)), (5, some (Blk.mk [D.bool p.fst, du p.snd] true)), (9, some (Blk.mk [D.bool (decide ((↑x : Int) < (0 : Int))), du (dig (↑x : Int).natAbs)] true))] 15)) (fun K => by kernel_rfl) ?_
      refine ⟨⟨rfl, rfl⟩, ⟨rfl, rfl⟩, hc, awp_cond rfl (fun e2 => ?_) (fun e2 => awp_skip (hK2 _ ?_))⟩
      · simp at e2
        have hgt : y < x := by have := cmpZ_pos.1 e2; omega
        refine awp_x prog_ok hP hnt [] [] [some (iz x)] [2, 3, 8, 9, 10] (by kernel_rfl) (G := fun K => ([D.bool (decide ((↑x : Int) < (0 : Int))), du (dig (↑x : Int).natAbs)][0]? = some (D.bool (decide ((↑x : Int) < (0 : Int)))) ∧ [D.bool (decide ((↑x : Int) < (0 : Int))), du (dig (↑x : Int).natAbs)][1]? = some (du (dig (↑x : Int).natAbs))) ∧ 0 + (iz (↑x : Int)).length ≤ [D.bool (decide ((↑y : Int) < (0 : Int))), du (dig (↑y : Int).natAbs)].length ∧ K (St.mk [(2, V.ptr 0 0), (3, V.ptr 1 0), (8, V.d (rp ps)), (9, V.d (D.int IntKind.i64 (↑ps.length : Int))), (10, V.d (D.int IntKind.i64 (↑i : Int)))] [(0, some (Blk.mk [D.bool false, D.lst 0 []] true)), (1, some (Blk.mk [D.bool (decide ((↑x : Int) < (0 : Int))), du (dig (↑x : Int).natAbs)] true)), (5, some (Blk.mk [D.bool p.fst, du p.snd] true)), (9, some (Blk.mk [D.bool (decide ((↑x : Int) < (0 : Int))), du (dig (↑x : Int).natAbs)] true))] 17)) (fun K => by kernel_rfl) ?_
        refine ⟨⟨rfl, rfl⟩, by simp [iz], hK2 _ ?_⟩
        refine awp_x prog_ok hP hnt [(21, .int .i64 (i + 1 : Nat))] [] [] [2, 3, 8, 9, 10] (by kernel_rfl) (G := fun K => IntKind.i64.wrap ((↑i : Int) + (1 : Int)) = (↑(i + 1) : Int) ∧ K (St.mk [(2, V.ptr 0 0), (3, V.ptr 1 0), (8, V.d (rp ps)), (9, V.d (D.int IntKind.i64 (↑ps.length : Int))), (10, V.d (D.int IntKind.i64 (↑(i + 1) : Int)))] [(0, some (Blk.mk [D.bool false, D.lst 0 []] true)), (1, some (Blk.mk [D.bool (decide ((↑x : Int) < (0 : Int))), du (dig (↑x : Int).natAbs)] true)), (5, some (Blk.mk [D.bool p.fst, du p.snd] true)), (9, some (Blk.mk [D.bool (decide ((↑x : Int) < (0 : Int))), du (dig (↑x : Int).natAbs)] true))] 19)) (fun K => by kernel_rfl) ?_
        refine ⟨by rw [w64] <;> omega, i + 1, [(0, 0), (1, 1)], ⟨by omega, by omega⟩, ?_⟩
        rw [hm, show max y x = x by omega]
        (constructor <;> simp [hl, envOk, memOk, conv, St.get, St.blk, iz])
      · simp at e2
        have hle : x ≤ y := by have := mt cmpZ_pos.2 (Int.not_lt.2 e2); omega
        refine awp_x prog_ok hP hnt [(21, .int .i64 (i + 1 : Nat))] [] [] [2, 3, 8, 9, 10] (by kernel_rfl) (G := fun K => IntKind.i64.wrap ((↑i : Int) + (1 : Int)) = (↑(i + 1) : Int) ∧ K (St.mk [(2, V.ptr 0 0), (3, V.ptr 1 0), (8, V.d (rp ps)), (9, V.d (D.int IntKind.i64 (↑ps.length : Int))), (10, V.d (D.int IntKind.i64 (↑(i + 1) : Int)))] [(0, some (Blk.mk [D.bool false, D.lst 0 []] true)), (1, some (Blk.mk [D.bool (decide ((↑y : Int) < (0 : Int))), du (dig (↑y : Int).natAbs)] true)), (5, some (Blk.mk [D.bool p.fst, du p.snd] true)), (9, some (Blk.mk [D.bool (decide ((↑x : Int) < (0 : Int))), du (dig (↑x : Int).natAbs)] true))] 17)) (fun K => by kernel_rfl) ?_
        refine ⟨by rw [w64] <;> omega, i + 1, [(0, 0), (1, 1)], ⟨by omega, by omega⟩, ?_⟩
        rw [hm, show max y x = y by omega]
        (constructor <;> simp [hl, envOk, memOk, conv, St.get, St.blk, iz])
    · simp at e
      have : i = ps.length := by omega
      subst this
      (constructor <;> simp [hl, envOk, memOk, conv, St.get, St.blk, iz])
  intro _ _
  refine awp_sx prog_ok hP hnt [] [] [some (iz (mxa F ps.length))] [2] (by kernel_rfl) (G := fun K => ((iz (↑(mxa F ps.length) : Int))[0]? = some (D.bool (decide ((↑(mxa F ps.length) : Int) < (0 : Int)))) ∧ (iz (↑(mxa F ps.length) : Int))[1]? = some (du (dig (↑(mxa F ps.length) : Int).natAbs))) ∧ 0 + (iz (↑(mxa F ps.length) : Int)).length ≤ [D.bool false, D.lst 0 []].length ∧ K (St.mk [(2, V.ptr 0 0)] [(0, some (Blk.mk [D.bool (decide ((↑(mxa F ps.length) : Int) < (0 : Int))), du (dig (↑(mxa F ps.length) : Int).natAbs)] true)), (1, some (Blk.mk [D.bool (decide ((↑(mxa F ps.length) : Int) < (0 : Int))), du (dig (↑(mxa F ps.length) : Int).natAbs)] true))] 4)) (fun K => by kernel_rfl) ?_
  exact ⟨⟨rfl, rfl⟩, by simp [iz], awp_ret ⟨.inl rfl, retC (l := true) rfl rfl rfl rfl⟩⟩

/-- how polynomials compare -/
noncomputable def cmpPoly (f g : Poly) : Int := if f.sz > g.sz then 1 else if f.sz < g.sz then -1 else cmpTop f.c g.c f.sz
theorem compareP {i : Nat} {ps qs : List RI} (hi : i ≤ 12) (hp : W i ps) (hq : W i qs) : Fn Try.prog 72 [.d (rp ps), .d (rp qs)] [] (.d (.int .i64 (cmpPoly (pol ps) (pol qs)))) [] := by
  have h2 := lim2 hi
  have h4 := lim4 hi
  have := ucmp_fn ps qs (by have := hp.len; omega) (by have := hq.len; omega) (pok_mono (by omega) hp.ok) (pok_mono (by omega) hq.ok)
  have e : cmpP ps qs = cmpPoly (pol ps) (pol qs) := by unfold cmpP cmpPoly; rw [rtrim_lenp, rtrim_lenp]; rfl
  rwa [e] at this
theorem zpcmp_fn (f g : Poly) {K : Nat} (hK : K ≤ 2 ^ 36) (hf : ∀ k, (f.c k).natAbs < 2 ^ K) (hg : ∀ k, (g.c k).natAbs < 2 ^ K) (hfs : f.sz ≤ 2 ^ 40) :
    Fn Try.prog 73 [.d (zl (cs f)), .d (zl (cs g))] [] (.d (.int .i64 (cmpPoly f g))) [] := by
  refine fn0 (nt := 36) (res := [.tmp 4]) Try.func73 rfl (by decide) rfl rfl rfl rfl ?_
  intro Cx hP hnt hl
  refine awp_sx prog_ok hP hnt [] [] [] [0, 1] (by kernel_rfl) (G := fun K => K (St.mk [(0, V.d (zl (cs f))), (1, V.d (zl (cs g)))] [] 1)) (fun K => by kernel_rfl) ?_
  refine awp_seq_k fun K hK => ?_
  refine awp_sx prog_ok hP hnt [] [] [] [0, 1, 11] (by kernel_rfl) (G := fun K => K (St.mk [(0, V.d (zl (cs f))), (1, V.d (zl (cs g))), (11, V.d (D.bool ((↑(cs f).length : Int) != (↑(cs g).length : Int))))] [] 6)) (fun K => by kernel_rfl) ?_
  refine awp_cond rfl (fun e => ?_) (fun e => awp_skip (hK _ ?_))
  · simp at e
    refine awp_seq_k fun K2 hK2 => ?_
    refine awp_sx prog_ok hP hnt [] [] [] [16] (by kernel_rfl) (G := fun K => K (St.mk [(16, V.d (D.bool (decide ((↑(cs f).length : Int) < (↑(cs g).length : Int)))))] [] 11)) (fun K => by kernel_rfl) ?_
    refine awp_cond rfl (fun e2 => ?_) (fun e2 => awp_skip (hK2 _ ?_))
    · simp at e2
      refine awp_sx prog_ok hP hnt [] [] [] [4] (by kernel_rfl) (G := fun K => K (St.mk [(4, V.d (D.int IntKind.i64 (-1 : Int)))] [] 12)) (fun K => by kernel_rfl) ?_
      refine awp_ret ⟨.inl rfl, retD ?_⟩
      rw [cmpPoly, if_neg (by omega), if_pos e2]; rfl
    · simp at e2
      refine awp_sx prog_ok hP hnt [] [] [] [4] (by kernel_rfl) (G := fun K => K (St.mk [(4, V.d (D.int IntKind.i64 (1 : Int)))] [] 12)) (fun K => by kernel_rfl) ?_
      refine awp_ret ⟨.inl rfl, retD ?_⟩
      rw [cmpPoly, if_pos (by omega)]; rfl
  · simp at e
    have hcp : cmpPoly f g = cmpTop f.c g.c f.sz := by rw [cmpPoly, if_neg (by omega), if_neg (by omega)]
    rw [hcp]
    refine awp_cut (ι := Unit) (fun _ => ⟨[], [], 0⟩) (fun _ => cmpTop f.c g.c f.sz = 0) ?_ ?_
    · refine awp_sx prog_ok hP hnt [(19, .int .i64 (f.sz - 1 : Int))] [] [] [0, 1, 5] (by kernel_rfl) (G := fun K => IntKind.i64.wrap ((↑(cs f).length : Int) - (1 : Int)) = (↑f.sz : Int) - (1 : Int) ∧ K (St.mk [(0, V.d (zl (cs f))), (1, V.d (zl (cs g))), (5, V.d (D.int IntKind.i64 ((↑f.sz : Int) - (1 : Int))))] [] 10)) (fun K => by kernel_rfl) ?_
      refine ⟨by rw [cs_len, w64] <;> omega, ?_⟩
      refine awp_block ?_
      refine awp_loop (ι := Nat) (fun n => ⟨[(0, .d (zl (cs f))), (1, .d (zl (cs g))), (5, .d (.int .i64 (n - 1 : Int)))], [], 0⟩)
        (fun n => n ≤ f.sz ∧ cmpTop f.c g.c f.sz = cmpTop f.c g.c n) (fun n => n) f.sz [] ⟨Nat.le_refl _, rfl⟩ ?_ ?_
      · (constructor <;> simp [hl, envOk, memOk, conv, St.get, St.blk])
      intro n ⟨hn, hz⟩
      refine awp_seq_k fun K hK => ?_
      refine awp_sx prog_ok hP hnt [] [] [] [0, 1, 5, 21] (by kernel_rfl) (G := fun K => K (St.mk [(0, V.d (zl (cs f))), (1, V.d (zl (cs g))), (5, V.d (D.int IntKind.i64 ((↑n : Int) - (1 : Int)))), (21, V.d (D.bool (decide ((↑n : Int) - (1 : Int) ≥ (0 : Int)))))] [] 2)) (fun K => by kernel_rfl) ?_
      refine awp_cond rfl (fun e3 => awp_skip (hK _ ?_)) (fun e3 => awp_exit ⟨(), [], ?_, ?_⟩)
      · simp at e3
        obtain ⟨j, rfl⟩ : ∃ j, n = j + 1 := ⟨n - 1, by omega⟩
        have ei : ((j + 1 : Nat) : Int) - 1 = j := by omega
        rw [ei]
        have hx := cs_get f j (by omega)
        have hy := cs_get g j (by omega)
        have hc := zcmp_fn (f.c j) (g.c j) (by assumption) (hf j) (hg j)
        refine awp_seq_k fun K2 hK2 => ?_
        refine awp_block ?_
        refine awp_sx prog_ok hP hnt [] [.val (.d (.int .i64 (cmpZ (f.c j) (g.c j))))] [some (zc (f.c j)), some (zc (g.c j))] [0, 1, 5, 6] (by kernel_rfl) (G := fun K => ((0 : Int) ≤ (↑j : Int) ∧ (↑j : Int) < (↑(cs f).length : Int) ∧ ((↑j : Int).toNat + 1) * 2 ≤ (zcs (cs f)).length) ∧ ((List.drop ((↑j : Int).toNat * 2) (zcs (cs f)))[0]? = some (D.int IntKind.i64 (f.c j).sign) ∧ (List.drop ((↑j : Int).toNat * 2) (zcs (cs f)))[1]? = some (ib (db 2 (f.c j).natAbs))) ∧ ((0 : Int) ≤ (↑j : Int) ∧ (↑j : Int) < (↑(cs g).length : Int) ∧ ((↑j : Int).toNat + 1) * 2 ≤ (zcs (cs g)).length) ∧ ((List.drop ((↑j : Int).toNat * 2) (zcs (cs g)))[0]? = some (D.int IntKind.i64 (g.c j).sign) ∧ (List.drop ((↑j : Int).toNat * 2) (zcs (cs g)))[1]? = some (ib (db 2 (g.c j).natAbs))) ∧ Fn Try.prog 60 [V.agg [D.int IntKind.i64 (f.c j).sign, ib (db 2 (f.c j).natAbs)], V.agg [D.int IntKind.i64 (g.c j).sign, ib (db 2 (g.c j).natAbs)]] [] (V.d (D.int IntKind.i64 (cmpZ (f.c j) (g.c j)))) [] ∧ K (St.mk [(0, V.d (zl (cs f))), (1, V.d (zl (cs g))), (5, V.d (D.int IntKind.i64 (↑j : Int))), (6, V.d (D.int IntKind.i64 (cmpZ (f.c j) (g.c j))))] [] 12)) (fun K => by kernel_rfl) ?_
        refine ⟨⟨by omega, by simp; omega, by simp; omega⟩, by rw [zcs_drop hx]; exact ⟨rfl, rfl⟩, ⟨by omega, by simp; omega, by simp; omega⟩, by rw [zcs_drop hy]; exact ⟨rfl, rfl⟩, hc, ?_⟩
        refine awp_sx prog_ok hP hnt [] [] [] [0, 1, 5, 6, 34] (by kernel_rfl) (G := fun K => K (St.mk [(0, V.d (zl (cs f))), (1, V.d (zl (cs g))), (5, V.d (D.int IntKind.i64 (↑j : Int))), (6, V.d (D.int IntKind.i64 (cmpZ (f.c j) (g.c j)))), (34, V.d (D.bool (cmpZ (f.c j) (g.c j) != (0 : Int))))] [] 14)) (fun K => by kernel_rfl) ?_
        refine awp_cond rfl (fun e4 => ?_) (fun e4 => awp_skip (hK2 _ ?_))
        · simp at e4
          refine awp_sx prog_ok hP hnt [] [] [] [4] (by kernel_rfl) (G := fun K => K (St.mk [(4, V.d (D.int IntKind.i64 (cmpZ (f.c j) (g.c j))))] [] 16)) (fun K => by kernel_rfl) ?_
          refine awp_ret ⟨.inl rfl, retD ?_⟩
          rw [hz, cmpTop, if_neg e4]; rfl
        · simp at e4
          refine awp_x prog_ok hP hnt [(23, .int .i64 (j - 1 : Int))] [] [] [0, 1, 5] (by kernel_rfl) (G := fun K => IntKind.i64.wrap ((↑j : Int) - (1 : Int)) = (↑j : Int) - (1 : Int) ∧ K (St.mk [(0, V.d (zl (cs f))), (1, V.d (zl (cs g))), (5, V.d (D.int IntKind.i64 ((↑j : Int) - (1 : Int))))] [] 17)) (fun K => by kernel_rfl) ?_
          refine ⟨by rw [w64] <;> omega, j, [], ⟨⟨by omega, by rw [hz, cmpTop, if_pos e4]⟩, by omega⟩, ?_⟩
          (constructor <;> simp [hl, envOk, memOk, conv, St.get, St.blk])
      · simp at e3
        have : n = 0 := by omega
        subst this
        rw [hz]; rfl
      · (constructor <;> simp [hl, envOk, memOk, conv, St.get, St.blk])
    intro _ h0
    refine awp_sx prog_ok hP hnt [] [] [] [4] (by kernel_rfl) (G := fun K => K (St.mk [(4, V.d (D.int IntKind.i64 (0 : Int)))] [] 1)) (fun K => by kernel_rfl) ?_
    refine awp_ret ⟨.inl rfl, retD ?_⟩
    rw [h0]; rfl

theorem zaddL {i : Nat} {f g : Poly} (hi : i ≤ 12) (hf : Lv i f) (hg : Lv i g) : Fn Try.prog 64 [.d (zl (cs f)), .d (zl (cs g))] [] (.d (zl (cs (f + g)))) [] := by
  have := zpadd_fn (cs f) (cs g) (K := 1280 * 4 ^ i) (lvbits hi) (Bz.cs hf.bits) (Bz.cs hg.bits) (by have := hf.len; have := lim2 hi; simp; omega) (by have := hg.len; have := lim2 hi; simp; omega)
  rwa [polL_cs, polL_cs] at this
theorem zscaleL {i : Nat} {f : Poly} {c : Int} (hi : i ≤ 12) (hf : Lv i f) (hc : c.natAbs < 2 ^ (1280 * 4 ^ i)) : Fn Try.prog 65 [.d (zl (cs f)), .agg (zc c)] [] (.d (zl (cs (Poly.C c * f)))) [] := by
  have := zpscale_fn (cs f) c (K := 1280 * 4 ^ i) (lvbits hi) (Bz.cs hf.bits) hc (by have := hf.len; have := lim2 hi; simp; omega)
  rwa [polL_cs] at this
theorem zsameL {i : Nat} {f g : Poly} (hi : i ≤ 12) (hf : Lv i f) (hg : Lv i g) : Fn Try.prog 71 [.d (zl (cs f)), .d (zl (cs g))] [] (.d (.bool (decide (f = g)))) [] := by
  have := zsame_fn (cs f) (cs g) (K := 1280 * 4 ^ i) (lvbits hi) (Bz.cs hf.bits) (Bz.cs hg.bits) (by have := hf.len; have := lim2 hi; simp; omega)
  rwa [show decide (cs f = cs g) = decide (f = g) by rw [Bool.eq_iff_iff, decide_eq_true_iff, decide_eq_true_iff]; exact ⟨cs_inj, fun h => by rw [h]⟩] at this
theorem zcmpL {i : Nat} {f g : Poly} (hi : i ≤ 12) (hf : Lv i f) (hg : Lv i g) : Fn Try.prog 73 [.d (zl (cs f)), .d (zl (cs g))] [] (.d (.int .i64 (cmpPoly f g))) [] :=
  zpcmp_fn f g (K := 1280 * 4 ^ i) (lvbits hi) hf.bits hg.bits (by have := hf.len; have := lim2 hi; omega)
theorem zisT (z : Int) {K : Nat} (hK : K ≤ 2 ^ 36) (hz : z.natAbs < 2 ^ K) : Fn Try.prog 69 [.d (.bool (riz z).1), .d (du (riz z).2), .agg (zc z)] [] (.d (.bool true)) [] := by
  have hd : (riz z).2.length ≤ 2 ^ 40 := by
    exact Nat.le_trans (dig_len (Nat.lt_of_lt_of_le hz (pow32 (E := K) (by omega)))) (by omega)
  have := zis_fn (riz z).1 (riz z).2 z hd (by omega : K ≤ 2 ^ 40) hz
  rwa [decide_eq_true (by rfl)] at this

theorem zcF (x : Int) : ib (Abs.db 2 x.natAbs) = ib (Abs.db 2 x.natAbs) := rfl
theorem adds_fn (a b : List RI) (c : RI) (da : ∀ p ∈ a, Dg p.2) (db : ∀ p ∈ b, Dg p.2) (dc : Dg c.2) :
    Fn Try.prog 6 [.d (rp a), .d (rp b), .agg (ic c.1 c.2)] [] (.d (.bool true)) [] := by
  refine fn0 (nt := 152) (res := [.tmp 6]) Try.func6 rfl (by decide) rfl rfl rfl rfl ?_
  intro Cx hP hnt hl
  obtain ⟨cs1, cl⟩ := c
  simp only at dc ⊢
  have fa := few_fn 12 4 a (by omega) (by omega)
  have fb := few_fn 12 4 b (by omega) (by omega)
  refine awp_sx prog_ok hP hnt [] [] [] [0, 1, 5] (by kernel_rfl) (G := fun K => K (St.mk [(0, V.d (rp a)), (1, V.d (rp b)), (5, V.ptr 0 0)] [(0, some (Blk.mk [D.bool cs1, du cl] true))] 2)) (fun K => by kernel_rfl) ?_
  refine awp_cut (ι := Unit) (fun _ => ⟨[(0, .d (rp a)), (1, .d (rp b)), (5, .ptr 0 0)], [(0, some ⟨ic cs1 cl, true⟩)], 1⟩) (fun _ => few 12 4 a = true ∧ few 12 4 b = true ∧ cl.length ≤ 4) ?_ ?_
  · cases ea : few 12 4 a with
    | false =>
      rw [ea] at fa
      refine awp_sx prog_ok hP hnt [(16, .bool false), (21, .bool true), (26, .bool true)] [.val (.d (.bool true)), .val (.d (.bool false))] [] [0, 1, 5, 32] (by kernel_rfl) (G := fun K => Fn Try.prog 38 [] [] (V.d (D.bool true)) [] ∧ (!true) = false ∧ Fn Try.prog 39 [V.d (D.int IntKind.i64 (12 : Int)), V.d (D.int IntKind.i64 (4 : Int)), V.d (rp a)] [] (V.d (D.bool false)) [] ∧ (!false) = true ∧ true = true ∧ K (St.mk [(0, V.d (rp a)), (1, V.d (rp b)), (5, V.ptr 0 0), (32, V.d (D.bool true))] [(0, some (Blk.mk [D.bool cs1, du cl] true))] 20)) (fun K => by kernel_rfl) ?_
      refine ⟨awake_fn, rfl, fa, rfl, rfl, awp_cond (b := true) rfl (fun _ => ?_) nofun⟩
      refine awp_sx prog_ok hP hnt [] [.val (.d (.bool true))] [] [6] (by kernel_rfl) (G := fun K => Fn Try.prog 38 [] [] (V.d (D.bool true)) [] ∧ K (St.mk [(6, V.d (D.bool true))] [(0, some (Blk.mk [D.bool cs1, du cl] true))] 22)) (fun K => by kernel_rfl) ?_
      exact ⟨awake_fn, awp_ret ⟨.inl rfl, retD rfl⟩⟩
    | true =>
      rw [ea] at fa
      cases eb : few 12 4 b with
      | false =>
        rw [eb] at fb
        refine awp_sx prog_ok hP hnt [(16, .bool false), (21, .bool false), (26, .bool true)] [.val (.d (.bool true)), .val (.d (.bool true)), .val (.d (.bool false))] [] [0, 1, 5, 32] (by kernel_rfl) (G := fun K => Fn Try.prog 38 [] [] (V.d (D.bool true)) [] ∧ (!true) = false ∧ Fn Try.prog 39 [V.d (D.int IntKind.i64 (12 : Int)), V.d (D.int IntKind.i64 (4 : Int)), V.d (rp a)] [] (V.d (D.bool true)) [] ∧ (!true) = false ∧ Fn Try.prog 39 [V.d (D.int IntKind.i64 (12 : Int)), V.d (D.int IntKind.i64 (4 : Int)), V.d (rp b)] [] (V.d (D.bool false)) [] ∧ (!false) = true ∧ K (St.mk [(0, V.d (rp a)), (1, V.d (rp b)), (5, V.ptr 0 0), (32, V.d (D.bool true))] [(0, some (Blk.mk [D.bool cs1, du cl] true))] 20)) (fun K => by kernel_rfl) ?_
        refine ⟨awake_fn, rfl, fa, rfl, fb, rfl, awp_cond (b := true) rfl (fun _ => ?_) nofun⟩
        refine awp_sx prog_ok hP hnt [] [.val (.d (.bool true))] [] [6] (by kernel_rfl) (G := fun K => Fn Try.prog 38 [] [] (V.d (D.bool true)) [] ∧ K (St.mk [(6, V.d (D.bool true))] [(0, some (Blk.mk [D.bool cs1, du cl] true))] 22)) (fun K => by kernel_rfl) ?_
        exact ⟨awake_fn, awp_ret ⟨.inl rfl, retD rfl⟩⟩
      | true =>
        rw [eb] at fb
        refine awp_sx prog_ok hP hnt [(16, .bool false), (21, .bool false), (26, .bool false)] [.val (.d (.bool true)), .val (.d (.bool true)), .val (.d (.bool true))] [some [du cl]] [0, 1, 5, 32] (by kernel_rfl) (G := fun K => Fn Try.prog 38 [] [] (V.d (D.bool true)) [] ∧ (!true) = false ∧ Fn Try.prog 39 [V.d (D.int IntKind.i64 (12 : Int)), V.d (D.int IntKind.i64 (4 : Int)), V.d (rp a)] [] (V.d (D.bool true)) [] ∧ (!true) = false ∧ Fn Try.prog 39 [V.d (D.int IntKind.i64 (12 : Int)), V.d (D.int IntKind.i64 (4 : Int)), V.d (rp b)] [] (V.d (D.bool true)) [] ∧ (!true) = false ∧ [D.bool cs1, du cl][1]? = some (du cl) ∧ K (St.mk [(0, V.d (rp a)), (1, V.d (rp b)), (5, V.ptr 0 0), (32, V.d (D.bool (decide ((↑cl.length : Int) > (4 : Int)))))] [(0, some (Blk.mk [D.bool cs1, du cl] true))] 20)) (fun K => by kernel_rfl) ?_
        refine ⟨awake_fn, rfl, fa, rfl, fb, rfl, rfl, awp_cond rfl (fun h => ?_) (fun h => awp_skip ⟨(), [(0, 0)], ⟨rfl, rfl, ?_⟩, ?_⟩)⟩
        · refine awp_sx prog_ok hP hnt [] [.val (.d (.bool true))] [] [6] (by kernel_rfl) (G := fun K => Fn Try.prog 38 [] [] (V.d (D.bool true)) [] ∧ K (St.mk [(6, V.d (D.bool true))] [(0, some (Blk.mk [D.bool cs1, du cl] true))] 22)) (fun K => by kernel_rfl) ?_
          exact ⟨awake_fn, awp_ret ⟨.inl rfl, retD rfl⟩⟩
        · simp at h; omega
        · (constructor <;> simp [hl, envOk, memOk, conv, St.get, St.blk, ic])
  intro _ ⟨ea, eb, ec⟩
  have wa := few_w da ea (by omega) (by omega)
  have wb := few_w db eb (by omega) (by omega)
  obtain ⟨f, hf⟩ : ∃ f, f = pol a := ⟨_, rfl⟩
  obtain ⟨g, hg⟩ : ∃ g, g = pol b := ⟨_, rfl⟩
  obtain ⟨c, hc⟩ : ∃ c, c = ival cs1 cl := ⟨_, rfl⟩
  have lf : Lv 0 f := hf ▸ wa.lv
  have lg : Lv 0 g := hg ▸ wb.lv
  have oa := ofL (by omega) wa
  have ob := ofL (by omega) wb
  have p1 := normP (by omega) wa
  have p2 := addP (by omega) wa wb
  have p3 := subP (by omega) wa wb
  have p4 := negP (by omega) wa
  have p5 := scaleP (s := cs1) (l := cl) (by omega) wa dc (by omega)
  have p6 := degP (by omega) wa
  have p7 := sameP (by omega) wa wb
  have p8 := compareP (by omega) wa wb
  have p9 := heightP (by omega) wa
  have p0 := leadP (by omega) wa
  have q5 := z_fn cs1 cl dc (by omega)
  rw [← hf] at oa p1 p4 p5 p6 p9 p0
  rw [← hg] at ob
  rw [← hf, ← hg] at p2 p3 p7 p8
  rw [← hc] at p5 q5
  have hcb : c.natAbs < 4294967296 ^ (40 * 4 ^ 0) := by
    rw [hc]; unfold ival; rw [sgn_abs]
    exact Nat.lt_of_lt_of_le (val_lt dc) (Nat.pow_le_pow_right (by omega) (by omega))
  obtain ⟨KB, hKB⟩ : ∃ KB, KB = 1280 * 4 ^ 0 := ⟨_, rfl⟩
  have hKB2 : KB ≤ 2 ^ 36 := by omega
  have hcb2 : c.natAbs < 2 ^ KB := by rw [hKB]; exact b32 (i := 0) hcb
  have hm1 := zsmall_fn (-1) (by decide)
  have hm2 : ((-1 : Int)).natAbs < 2 ^ KB := m1bits (by omega)
  have eneg : ∀ h : Poly, Poly.C (-1) * h = -h := fun h => Poly.ext_ev fun x _ => by simp
  have lng : Lv 1 (-g) := by rw [← eneg]; exact Lv.cmul m1big lg
  have lnf : Lv 1 (-f) := by rw [← eneg]; exact Lv.cmul m1big lf
  have r2 := zaddL (i := 0) (by omega) lf lg
  have r3a := zscaleL (i := 0) (c := -1) (by omega) lg (by rw [← hKB]; exact hm2)
  have r3 := zaddL (i := 1) (by omega) (lf.mono (by omega)) lng
  have r4 := zscaleL (i := 0) (c := -1) (by omega) lf (by rw [← hKB]; exact hm2)
  have r5 := zscaleL (i := 0) (c := c) (by omega) lf (by rw [← hKB]; exact hcb2)
  rw [eneg] at r3a r4
  rw [show f + -g = f - g from Poly.ext_ev fun x _ => by simp; omega] at r3
  have r7 := zsameL (i := 0) (by omega) lf lg
  have r8 := zcmpL (i := 0) (by omega) lf lg
  have hfs := lf.len
  have hbt : ∀ k, (f.c k).natAbs < 2 ^ KB := fun k => by rw [hKB]; exact lf.bits k
  have hH : ∀ n, mxa f.c n < 2 ^ KB := mxa_lt (Nat.pow_pos (by omega)) hbt
  refine awp_sx prog_ok hP hnt [] [.val (.d (zl (cs f))), .val (.d (zl (cs g)))] [] [0, 1, 5, 7, 8] (by kernel_rfl) (G := fun K => Fn Try.prog 40 [V.d (rp a)] [] (V.d (zl (cs f))) [] ∧ Fn Try.prog 40 [V.d (rp b)] [] (V.d (zl (cs g))) [] ∧ K (St.mk [(0, V.d (rp a)), (1, V.d (rp b)), (5, V.ptr 0 0), (7, V.d (zl (cs f))), (8, V.d (zl (cs g)))] [(0, some (Blk.mk [D.bool cs1, du cl] true))] 7)) (fun K => by kernel_rfl) ?_
  refine ⟨oa, ob, ?_⟩
  refine awp_sx prog_ok hP hnt [] [.val (.agg (zc (-1)))] [] [0, 1, 5, 7, 8, 9] (by kernel_rfl) (G := fun K => Fn Try.prog 41 [V.d (D.int IntKind.i64 (-1 : Int))] [] (V.agg [D.int IntKind.i64 (-1 : Int).sign, ib (Abs.db 2 (-1 : Int).natAbs)]) [] ∧ 2 ≤ (TI.mk (Kind.struct [(0, 1), (1, 1)]) 2 32 [D.int IntKind.i64 (0 : Int), D.lst 0 []]).zero.length ∧ K (St.mk [(0, V.d (rp a)), (1, V.d (rp b)), (5, V.ptr 0 0), (7, V.d (zl (cs f))), (8, V.d (zl (cs g))), (9, V.ptr 8 0)] [(0, some (Blk.mk [D.bool cs1, du cl] true)), (8, some (Blk.mk [D.int IntKind.i64 (-1 : Int).sign, ib (Abs.db 2 (-1 : Int).natAbs)] true))] 10)) (fun K => by kernel_rfl) ?_
  refine ⟨hm1, by simp [zc_len], ?_⟩
  refine awp_sx prog_ok hP hnt [] [] [] [0, 1, 5, 7, 8, 9, 10] (by kernel_rfl) (G := fun K => 2 ≤ (TI.mk (Kind.struct [(0, 1), (1, 1)]) 2 32 [D.int IntKind.i64 (0 : Int), D.lst 0 []]).zero.length ∧ K (St.mk [(0, V.d (rp a)), (1, V.d (rp b)), (5, V.ptr 0 0), (7, V.d (zl (cs f))), (8, V.d (zl (cs g))), (9, V.ptr 8 0), (10, V.ptr 11 0)] [(0, some (Blk.mk [D.bool cs1, du cl] true)), (8, some (Blk.mk [D.int IntKind.i64 (-1 : Int).sign, ib (Abs.db 2 (-1 : Int).natAbs)] true)), (11, some (Blk.mk [D.int IntKind.i64 (0 : Int), D.lst 0 []] true))] 13)) (fun K => by kernel_rfl) ?_
  refine ⟨by simp, ?_⟩
  refine awp_cut (ι := Unit) (fun _ => ⟨[(0, .d (rp a)), (1, .d (rp b)), (5, .ptr 0 0), (7, .d (zl (cs f))), (8, .d (zl (cs g))), (9, .ptr 1 0), (10, .ptr 2 0)], [(0, some ⟨ic cs1 cl, true⟩), (1, some ⟨zc (-1), true⟩), (2, some ⟨zc (hgt f), true⟩)], 3⟩) (fun _ => True) ?_ ?_
  · refine awp_sx prog_ok hP hnt [] [] [] [0, 1, 5, 7, 8, 9, 10, 11] (by kernel_rfl) (G := fun K => K (St.mk [(0, V.d (rp a)), (1, V.d (rp b)), (5, V.ptr 0 0), (7, V.d (zl (cs f))), (8, V.d (zl (cs g))), (9, V.ptr 8 0), (10, V.ptr 11 0), (11, V.d (D.int IntKind.i64 (0 : Int)))] [(0, some (Blk.mk [D.bool cs1, du cl] true)), (8, some (Blk.mk [D.int IntKind.i64 (-1 : Int).sign, ib (Abs.db 2 (-1 : Int).natAbs)] true)), (11, some (Blk.mk [D.int IntKind.i64 (0 : Int), D.lst 0 []] true))] 14)) (fun K => by kernel_rfl) ?_
    refine awp_block ?_
    refine awp_loop (ι := Nat) (fun i => ⟨[(0, .d (rp a)), (1, .d (rp b)), (5, .ptr 0 0), (7, .d (zl (cs f))), (8, .d (zl (cs g))), (9, .ptr 1 0), (10, .ptr 2 0), (11, .d (.int .i64 i))], [(0, some ⟨ic cs1 cl, true⟩), (1, some ⟨zc (-1), true⟩), (2, some ⟨zc (mxa f.c i), true⟩)], 3⟩)
      (fun i => i ≤ f.sz) (fun i => f.sz - i) 0 [(0, 0), (1, 8), (2, 11)] (by simp) ?_ ?_
    · (constructor <;> simp [hl, envOk, memOk, conv, St.get, St.blk, mxa, zc, ic, db_zero, ib, fm])
    intro i hi
    refine awp_seq_k fun K1 hK1 => ?_
    refine awp_sx prog_ok hP hnt [] [] [] [0, 1, 5, 7, 8, 9, 10, 11, 43] (by kernel_rfl) (G := fun K => K (St.mk [(0, V.d (rp a)), (1, V.d (rp b)), (5, V.ptr 0 0), (7, V.d (zl (cs f))), (8, V.d (zl (cs g))), (9, V.ptr 1 0), (10, V.ptr 2 0), (11, V.d (D.int IntKind.i64 (↑i : Int))), (43, V.d (D.bool (decide ((↑i : Int) < (↑(cs f).length : Int)))))] [(0, some (Blk.mk [D.bool cs1, du cl] true)), (1, some (Blk.mk [D.int IntKind.i64 (-1 : Int).sign, ib (Abs.db 2 (-1 : Int).natAbs)] true)), (2, some (Blk.mk [D.int IntKind.i64 (↑(mxa f.c i) : Int).sign, ib (Abs.db 2 (↑(mxa f.c i) : Int).natAbs)] true))] 7)) (fun K => by kernel_rfl) ?_
    refine awp_cond rfl (fun e => awp_skip (hK1 _ ?_)) (fun e => awp_exit ⟨(), [(0, 0), (1, 1), (2, 2)], trivial, ?_⟩)
    · simp at e
      have hx := cs_get f i e
      obtain ⟨x, hxx⟩ : ∃ x, x = (f.c i).natAbs := ⟨_, rfl⟩
      obtain ⟨y, hy⟩ : ∃ y, y = mxa f.c i := ⟨_, rfl⟩
      have hxb := hbt i
      have hyb := hH i
      have hm : mxa f.c (i + 1) = max y x := by rw [mxa, ← hxx, ← hy]
      rw [← hxx] at hxb
      rw [← hy] at hyb ⊢
      have hmk := zmake_fn false (Abs.db 2 x) (db2 _) (by have := dblen hxb; omega)
      rw [vbdb, show sgn false x = (x : Int) from rfl] at hmk
      have hcm := zcmp_fn x y (K := KB) (by omega) (by simpa using hxb) (by simpa using hyb)
      refine awp_seq_k fun K2 hK2 => ?_
      refine awp_block ?_
      refine awp_sx prog_ok hP hnt [] [.val (.agg (zc x))] [some [ib (Abs.db 2 x)]] [0, 1, 5, 7, 8, 9, 10, 11, 12] (by kernel_rfl) (G := fun K => ((0 : Int) ≤ (↑i : Int) ∧ (↑i : Int) < (↑(cs f).length : Int) ∧ ((↑i : Int).toNat + 1) * 2 ≤ (zcs (cs f)).length) ∧ (List.drop 1 (List.drop ((↑i : Int).toNat * 2) (zcs (cs f))))[0]? = some (ib (Abs.db 2 x)) ∧ Fn Try.prog 59 [V.d (D.bool false), V.d (ib (Abs.db 2 x))] [] (V.agg [D.int IntKind.i64 (↑x : Int).sign, ib (Abs.db 2 (↑x : Int).natAbs)]) [] ∧ 0 + (zc (↑x : Int)).length ≤ (TI.mk (Kind.struct [(0, 1), (1, 1)]) 2 32 [D.int IntKind.i64 (0 : Int), D.lst 0 []]).zero.length ∧ K (St.mk [(0, V.d (rp a)), (1, V.d (rp b)), (5, V.ptr 0 0), (7, V.d (zl (cs f))), (8, V.d (zl (cs g))), (9, V.ptr 1 0), (10, V.ptr 2 0), (11, V.d (D.int IntKind.i64 (↑i : Int))), (12, V.ptr 13 0)] [(0, some (Blk.mk [D.bool cs1, du cl] true)), (1, some (Blk.mk [D.int IntKind.i64 (-1 : Int).sign, ib (Abs.db 2 (-1 : Int).natAbs)] true)), (2, some (Blk.mk [D.int IntKind.i64 (↑y : Int).sign, ib (Abs.db 2 (↑y : Int).natAbs)] true)), (13, some (Blk.mk [D.int IntKind.i64 (↑x : Int).sign, ib (Abs.db 2 (↑x : Int).natAbs)] true))] 15)) (fun K => by kernel_rfl) ?_
      refine ⟨⟨by omega, by simp; omega, by simp; omega⟩, by rw [zcs_drop hx, hxx]; rfl, hmk, by simp [zc_len], ?_⟩
      refine awp_sx prog_ok hP hnt [] [.val (.d (.int .i64 (cmpZ x y)))] [some (zc x), some (zc y)] [0, 1, 5, 7, 8, 9, 10, 11, 12, 55] (by kernel_rfl) (G := fun K => ([D.int IntKind.i64 (↑x : Int).sign, ib (Abs.db 2 (↑x : Int).natAbs)][0]? = some (D.int IntKind.i64 (↑x : Int).sign) ∧ [D.int IntKind.i64 (↑x : Int).sign, ib (Abs.db 2 (↑x : Int).natAbs)][1]? = some (ib (Abs.db 2 (↑x : Int).natAbs))) ∧ ([D.int IntKind.i64 (↑y : Int).sign, ib (Abs.db 2 (↑y : Int).natAbs)][0]? = some (D.int IntKind.i64 (↑y : Int).sign) ∧ [D.int IntKind.i64 (↑y : Int).sign, ib (Abs.db 2 (↑y : Int).natAbs)][1]? = some (ib (Abs.db 2 (↑y : Int).natAbs))) ∧ Fn Try.prog 60 [V.agg [D.int IntKind.i64 (↑x : Int).sign, ib (Abs.db 2 (↑x : Int).natAbs)], V.agg [D.int IntKind.i64 (↑y : Int).sign, ib (Abs.db 2 (↑y : Int).natAbs)]] [] (V.d (D.int IntKind.i64 (cmpZ (↑x : Int) (↑y : Int)))) [] ∧ K (St.mk [(0, V.d (rp a)), (1, V.d (rp b)), (5, V.ptr 0 0), (7, V.d (zl (cs f))), (8, V.d (zl (cs g))), (9, V.ptr 1 0), (10, V.ptr 2 0), (11, V.d (D.int IntKind.i64 (↑i : Int))), (12, V.ptr 13 0), (55, V.d (D.bool (decide (cmpZ (↑x : Int) (↑y : Int) > (0 : Int)))))] [(0, some (Blk.mk [D.bool cs1, du cl] true)), (1, some (Blk.mk [D.int IntKind.i64 (-1 : Int).sign, ib (Abs.db 2 (-1 : Int).natAbs)] true)), (2, some (Blk.mk [D.int IntKind.i64 (↑y : Int).sign, ib (Abs.db 2 (↑y : Int).natAbs)] true)), (13, some (Blk.mk [D.int IntKind.i64 (↑x : Int).sign, ib (Abs.db 2 (↑x : Int).natAbs)] true))] 19)) (fun K => by kernel_rfl) ?_
      refine ⟨⟨rfl, rfl⟩, ⟨rfl, rfl⟩, hcm, awp_cond rfl (fun e2 => ?_) (fun e2 => awp_skip (hK2 _ ?_))⟩
      · simp at e2
        have hgt : y < x := by have := cmpZ_pos.1 e2; omega
        refine awp_x prog_ok hP hnt [] [] [some (zc x)] [0, 1, 5, 7, 8, 9, 10, 11] (by kernel_rfl) (G := fun K => ([D.int IntKind.i64 (↑x : Int).sign, ib (Abs.db 2 (↑x : Int).natAbs)][0]? = some (D.int IntKind.i64 (↑x : Int).sign) ∧ [D.int IntKind.i64 (↑x : Int).sign, ib (Abs.db 2 (↑x : Int).natAbs)][1]? = some (ib (Abs.db 2 (↑x : Int).natAbs))) ∧ 0 + (zc (↑x : Int)).length ≤ [D.int IntKind.i64 (↑y : Int).sign, ib (Abs.db 2 (↑y : Int).natAbs)].length ∧ K (St.mk [(0, V.d (rp a)), (1, V.d (rp b)), (5, V.ptr 0 0), (7, V.d (zl (cs f))), (8, V.d (zl (cs g))), (9, V.ptr 1 0), (10, V.ptr 2 0), (11, V.d (D.int IntKind.i64 (↑i : Int)))] [(0, some (Blk.mk [D.bool cs1, du cl] true)), (1, some (Blk.mk [D.int IntKind.i64 (-1 : Int).sign, ib (Abs.db 2 (-1 : Int).natAbs)] true)), (2, some (Blk.mk [D.int IntKind.i64 (↑x : Int).sign, ib (Abs.db 2 (↑x : Int).natAbs)] true)), (13, some (Blk.mk [D.int IntKind.i64 (↑x : Int).sign, ib (Abs.db 2 (↑x : Int).natAbs)] true))] 21)) (fun K => by kernel_rfl) ?_
        refine ⟨⟨rfl, rfl⟩, by simp [zc_len], hK2 _ ?_⟩
        refine awp_x prog_ok hP hnt [(45, .int .i64 (i + 1 : Nat))] [] [] [0, 1, 5, 7, 8, 9, 10, 11] (by kernel_rfl) (G := fun K => IntKind.i64.wrap ((↑i : Int) + (1 : Int)) = (↑(i + 1) : Int) ∧ K (St.mk [(0, V.d (rp a)), (1, V.d (rp b)), (5, V.ptr 0 0), (7, V.d (zl (cs f))), (8, V.d (zl (cs g))), (9, V.ptr 1 0), (10, V.ptr 2 0), (11, V.d (D.int IntKind.i64 (↑(i + 1) : Int)))] [(0, some (Blk.mk [D.bool cs1, du cl] true)), (1, some (Blk.mk [D.int IntKind.i64 (-1 : Int).sign, ib (Abs.db 2 (-1 : Int).natAbs)] true)), (2, some (Blk.mk [D.int IntKind.i64 (↑x : Int).sign, ib (Abs.db 2 (↑x : Int).natAbs)] true)), (13, some (Blk.mk [D.int IntKind.i64 (↑x : Int).sign, ib (Abs.db 2 (↑x : Int).natAbs)] true))] 24)) (fun K => by kernel_rfl) ?_
        refine ⟨by rw [w64] <;> omega, i + 1, [(0, 0), (1, 1), (2, 2)], ⟨by omega, by omega⟩, ?_⟩
        rw [hm, show max y x = x by omega]
        (constructor <;> simp [hl, envOk, memOk, conv, St.get, St.blk, zc, ic])
      · simp at e2
        have hle : x ≤ y := by have := mt cmpZ_pos.2 (Int.not_lt.2 e2); omega
        refine awp_x prog_ok hP hnt [(45, .int .i64 (i + 1 : Nat))] [] [] [0, 1, 5, 7, 8, 9, 10, 11] (by kernel_rfl) (G := fun K => IntKind.i64.wrap ((↑i : Int) + (1 : Int)) = (↑(i + 1) : Int) ∧ K (St.mk [(0, V.d (rp a)), (1, V.d (rp b)), (5, V.ptr 0 0), (7, V.d (zl (cs f))), (8, V.d (zl (cs g))), (9, V.ptr 1 0), (10, V.ptr 2 0), (11, V.d (D.int IntKind.i64 (↑(i + 1) : Int)))] [(0, some (Blk.mk [D.bool cs1, du cl] true)), (1, some (Blk.mk [D.int IntKind.i64 (-1 : Int).sign, ib (Abs.db 2 (-1 : Int).natAbs)] true)), (2, some (Blk.mk [D.int IntKind.i64 (↑y : Int).sign, ib (Abs.db 2 (↑y : Int).natAbs)] true)), (13, some (Blk.mk [D.int IntKind.i64 (↑x : Int).sign, ib (Abs.db 2 (↑x : Int).natAbs)] true))] 22)) (fun K => by kernel_rfl) ?_
        refine ⟨by rw [w64] <;> omega, i + 1, [(0, 0), (1, 1), (2, 2)], ⟨by omega, by omega⟩, ?_⟩
        rw [hm, show max y x = y by omega]
        (constructor <;> simp [hl, envOk, memOk, conv, St.get, St.blk, zc, ic])
    · simp at e
      have : i = f.sz := by omega
      subst this
      (constructor <;> simp [hl, envOk, memOk, conv, St.get, St.blk, hgt, zc, ic])
  intro _ _
  refine awp_sx prog_ok hP hnt [] [.val (.agg (iz (hgt f))), .val (.agg (iz f.lc))] [] [0, 1, 5, 7, 8, 9, 10, 13, 14] (by kernel_rfl) (G := fun K => Fn Try.prog 61 [V.d (rp a)] [] (V.agg [D.bool (decide ((↑(hgt f) : Int) < (0 : Int))), du (dig (↑(hgt f) : Int).natAbs)]) [] ∧ Fn Try.prog 62 [V.d (rp a)] [] (V.agg [D.bool (decide (f.lc < (0 : Int))), du (dig f.lc.natAbs)]) [] ∧ 0 + (iz (↑(hgt f) : Int)).length ≤ (TI.mk (Kind.struct [(0, 1), (1, 1)]) 2 32 [D.bool false, D.lst 0 []]).zero.length ∧ 0 + (iz f.lc).length ≤ (TI.mk (Kind.struct [(0, 1), (1, 1)]) 2 32 [D.bool false, D.lst 0 []]).zero.length ∧ K (St.mk [(0, V.d (rp a)), (1, V.d (rp b)), (5, V.ptr 0 0), (7, V.d (zl (cs f))), (8, V.d (zl (cs g))), (9, V.ptr 1 0), (10, V.ptr 2 0), (13, V.ptr 7 0), (14, V.ptr 8 0)] [(0, some (Blk.mk [D.bool cs1, du cl] true)), (1, some (Blk.mk [D.int IntKind.i64 (-1 : Int).sign, ib (Abs.db 2 (-1 : Int).natAbs)] true)), (2, some (Blk.mk [D.int IntKind.i64 (↑(hgt f) : Int).sign, ib (Abs.db 2 (↑(hgt f) : Int).natAbs)] true)), (7, some (Blk.mk [D.bool (decide ((↑(hgt f) : Int) < (0 : Int))), du (dig (↑(hgt f) : Int).natAbs)] true)), (8, some (Blk.mk [D.bool (decide (f.lc < (0 : Int))), du (dig f.lc.natAbs)] true))] 11)) (fun K => by kernel_rfl) ?_
  refine ⟨p9, p0, by simp [iz], by simp [iz], ?_⟩
  refine awp_seq_k fun K hK => ?_
  have lc1 := Lv.cmul hcb lf
  refine awp_sx prog_ok hP hnt [] [.val (.d (rp (cp f))), .val (.d (.bool true)), .val (.d (rp (cp (f + g)))), .val (.d (zl (cs (f + g)))), .val (.d (.bool true)), .val (.d (rp (cp (f - g)))), .val (.d (zl (cs (-g)))), .val (.d (zl (cs (f - g)))), .val (.d (.bool true)), .val (.d (rp (cp (-f)))), .val (.d (zl (cs (-f)))), .val (.d (.bool true)), .val (.d (rp (cp (Poly.C c * f)))), .val (.agg (zc c)), .val (.d (zl (cs (Poly.C c * f)))), .val (.d (.bool true))] [some (zc (-1)), some (zc (-1)), some (ic cs1 cl), some (ic cs1 cl)] [0, 1, 7, 8, 10, 13, 14, 107] (by kernel_rfl) (G := fun K => Fn Try.prog 63 [V.d (rp a)] [] (V.d (rp (cp f))) [] ∧ Fn Try.prog 43 [V.d (rp (cp f)), V.d (zl (cs f))] [] (V.d (D.bool true)) [] ∧ Fn Try.prog 48 [V.d (rp a), V.d (rp b)] [] (V.d (rp (cp (f + g)))) [] ∧ Fn Try.prog 64 [V.d (zl (cs f)), V.d (zl (cs g))] [] (V.d (zl (cs (f + g)))) [] ∧ Fn Try.prog 43 [V.d (rp (cp (f + g))), V.d (zl (cs (f + g)))] [] (V.d (D.bool true)) [] ∧ Fn Try.prog 50 [V.d (rp a), V.d (rp b)] [] (V.d (rp (cp (f - g)))) [] ∧ ([D.int IntKind.i64 (-1 : Int).sign, ib (Abs.db 2 (-1 : Int).natAbs)][0]? = some (D.int IntKind.i64 (-1 : Int).sign) ∧ [D.int IntKind.i64 (-1 : Int).sign, ib (Abs.db 2 (-1 : Int).natAbs)][1]? = some (ib (Abs.db 2 (-1 : Int).natAbs))) ∧ Fn Try.prog 65 [V.d (zl (cs g)), V.agg [D.int IntKind.i64 (-1 : Int).sign, ib (Abs.db 2 (-1 : Int).natAbs)]] [] (V.d (zl (cs (-g)))) [] ∧ Fn Try.prog 64 [V.d (zl (cs f)), V.d (zl (cs (-g)))] [] (V.d (zl (cs (f - g)))) [] ∧ Fn Try.prog 43 [V.d (rp (cp (f - g))), V.d (zl (cs (f - g)))] [] (V.d (D.bool true)) [] ∧ Fn Try.prog 66 [V.d (rp a)] [] (V.d (rp (cp (-f)))) [] ∧ ([D.int IntKind.i64 (-1 : Int).sign, ib (Abs.db 2 (-1 : Int).natAbs)][0]? = some (D.int IntKind.i64 (-1 : Int).sign) ∧ [D.int IntKind.i64 (-1 : Int).sign, ib (Abs.db 2 (-1 : Int).natAbs)][1]? = some (ib (Abs.db 2 (-1 : Int).natAbs))) ∧ Fn Try.prog 65 [V.d (zl (cs f)), V.agg [D.int IntKind.i64 (-1 : Int).sign, ib (Abs.db 2 (-1 : Int).natAbs)]] [] (V.d (zl (cs (-f)))) [] ∧ Fn Try.prog 43 [V.d (rp (cp (-f))), V.d (zl (cs (-f)))] [] (V.d (D.bool true)) [] ∧ ([D.bool cs1, du cl][0]? = some (D.bool cs1) ∧ [D.bool cs1, du cl][1]? = some (du cl)) ∧ Fn Try.prog 67 [V.d (rp a), V.agg [D.bool cs1, du cl]] [] (V.d (rp (cp (Poly.C c * f)))) [] ∧ ([D.bool cs1, du cl][0]? = some (D.bool cs1) ∧ [D.bool cs1, du cl][1]? = some (du cl)) ∧ Fn Try.prog 52 [V.agg [D.bool cs1, du cl]] [] (V.agg [D.int IntKind.i64 c.sign, ib (Abs.db 2 c.natAbs)]) [] ∧ Fn Try.prog 65 [V.d (zl (cs f)), V.agg [D.int IntKind.i64 c.sign, ib (Abs.db 2 c.natAbs)]] [] (V.d (zl (cs (Poly.C c * f)))) [] ∧ Fn Try.prog 43 [V.d (rp (cp (Poly.C c * f))), V.d (zl (cs (Poly.C c * f)))] [] (V.d (D.bool true)) [] ∧ K (St.mk [(0, V.d (rp a)), (1, V.d (rp b)), (7, V.d (zl (cs f))), (8, V.d (zl (cs g))), (10, V.ptr 2 0), (13, V.ptr 7 0), (14, V.ptr 8 0), (107, V.d (D.bool !true))] [(0, some (Blk.mk [D.bool cs1, du cl] true)), (1, some (Blk.mk [D.int IntKind.i64 (-1 : Int).sign, ib (Abs.db 2 (-1 : Int).natAbs)] true)), (2, some (Blk.mk [D.int IntKind.i64 (↑(hgt f) : Int).sign, ib (Abs.db 2 (↑(hgt f) : Int).natAbs)] true)), (7, some (Blk.mk [D.bool (decide ((↑(hgt f) : Int) < (0 : Int))), du (dig (↑(hgt f) : Int).natAbs)] true)), (8, some (Blk.mk [D.bool (decide (f.lc < (0 : Int))), du (dig f.lc.natAbs)] true))] 58)) (fun K => by kernel_rfl) ?_
  refine ⟨p1, isL (i := 0) (by omega) lf lf rfl, p2, r2, isL (i := 1) (by omega) (lf.add lg) (lf.add lg) rfl, p3, ⟨rfl, rfl⟩, r3a, r3, isL (i := 1) (by omega) (lf.sub lg) (lf.sub lg) rfl, p4, ⟨rfl, rfl⟩, r4, isL (i := 1) (by omega) lnf lnf rfl, ⟨rfl, rfl⟩, p5, ⟨rfl, rfl⟩, q5, r5, isL (i := 1) (by omega) lc1 lc1 rfl, awp_cond (b := false) rfl nofun fun _ => awp_skip (hK _ ?_)⟩
  have hat : Fn Try.prog 70 [.d (zl (cs f)), .d (.int .i64 ((f.sz : Int) - 1))] [] (.agg (zc f.lc)) [] := by
    by_cases h0 : f.sz = 0
    · have : f = 0 := Poly.eq_zero.2 h0
      rw [h0, this, Poly.lc_zero]
      exact zatn_fn _ _ (by omega)
    · have := zat_fn (cs f) (f.sz - 1)
      rw [cs_getD] at this
      rwa [show ((f.sz - 1 : Nat) : Int) = (f.sz : Int) - 1 by omega] at this
  have hlb : f.lc.natAbs < 2 ^ KB := hbt _
  have i1 := zisT f.lc (K := KB) (by omega) hlb
  have i2 := zisT (hgt f) (K := KB) (by omega) (by rw [Int.natAbs_natCast]; exact hH f.sz)
  have hw1 : IntKind.i64.wrap (((cs f).length : Nat) - 1 : Int) = (f.sz : Int) - 1 := by rw [cs_len, w64] <;> omega
  refine awp_sx prog_ok hP hnt [(112, .int .i64 ((f.sz : Int) - 1)), (113, .bool true), (122, .int .i64 ((f.sz : Int) - 1)), (133, .bool true), (142, .bool true)] [.val (.d (.int .i64 ((f.sz : Int) - 1))), .val (.agg (zc f.lc)), .val (.d (.bool true)), .val (.d (.bool (decide (f = g)))), .val (.d (.bool (decide (f = g)))), .val (.d (.int .i64 (cmpPoly f g))), .val (.d (.int .i64 (cmpPoly f g))), .val (.d (.bool true))] [some [.bool (riz f.lc).1], some [du (riz f.lc).2], some [.bool (riz (hgt f)).1], some [du (riz (hgt f)).2], some (zc (hgt f))] [6] (by kernel_rfl) (G := fun K => Fn Try.prog 68 [V.d (rp a)] [] (V.d (D.int IntKind.i64 ((↑f.sz : Int) - (1 : Int)))) [] ∧ IntKind.i64.wrap ((↑(cs f).length : Int) - (1 : Int)) = (↑f.sz : Int) - (1 : Int) ∧ ((↑f.sz : Int) - (1 : Int) == (↑f.sz : Int) - (1 : Int)) = true ∧ [D.bool (decide (f.lc < (0 : Int))), du (dig f.lc.natAbs)][0]? = some (D.bool (riz f.lc).fst) ∧ [D.bool (decide (f.lc < (0 : Int))), du (dig f.lc.natAbs)][1]? = some (du (riz f.lc).snd) ∧ IntKind.i64.wrap ((↑(cs f).length : Int) - (1 : Int)) = (↑f.sz : Int) - (1 : Int) ∧ Fn Try.prog 70 [V.d (zl (cs f)), V.d (D.int IntKind.i64 ((↑f.sz : Int) - (1 : Int)))] [] (V.agg [D.int IntKind.i64 f.lc.sign, ib (Abs.db 2 f.lc.natAbs)]) [] ∧ Fn Try.prog 69 [V.d (D.bool (riz f.lc).fst), V.d (du (riz f.lc).snd), V.agg [D.int IntKind.i64 f.lc.sign, ib (Abs.db 2 f.lc.natAbs)]] [] (V.d (D.bool true)) [] ∧ Fn Try.prog 49 [V.d (rp a), V.d (rp b)] [] (V.d (D.bool (decide (f = g)))) [] ∧ Fn Try.prog 71 [V.d (zl (cs f)), V.d (zl (cs g))] [] (V.d (D.bool (decide (f = g)))) [] ∧ (decide (f = g) == decide (f = g)) = true ∧ Fn Try.prog 72 [V.d (rp a), V.d (rp b)] [] (V.d (D.int IntKind.i64 (cmpPoly f g))) [] ∧ Fn Try.prog 73 [V.d (zl (cs f)), V.d (zl (cs g))] [] (V.d (D.int IntKind.i64 (cmpPoly f g))) [] ∧ (cmpPoly f g == cmpPoly f g) = true ∧ [D.bool (decide ((↑(hgt f) : Int) < (0 : Int))), du (dig (↑(hgt f) : Int).natAbs)][0]? = some (D.bool (riz (↑(hgt f) : Int)).fst) ∧ [D.bool (decide ((↑(hgt f) : Int) < (0 : Int))), du (dig (↑(hgt f) : Int).natAbs)][1]? = some (du (riz (↑(hgt f) : Int)).snd) ∧ ([D.int IntKind.i64 (↑(hgt f) : Int).sign, ib (Abs.db 2 (↑(hgt f) : Int).natAbs)][0]? = some (D.int IntKind.i64 (↑(hgt f) : Int).sign) ∧ [D.int IntKind.i64 (↑(hgt f) : Int).sign, ib (Abs.db 2 (↑(hgt f) : Int).natAbs)][1]? = some (ib (Abs.db 2 (↑(hgt f) : Int).natAbs))) ∧ Fn Try.prog 69 [V.d (D.bool (riz (↑(hgt f) : Int)).fst), V.d (du (riz (↑(hgt f) : Int)).snd), V.agg [D.int IntKind.i64 (↑(hgt f) : Int).sign, ib (Abs.db 2 (↑(hgt f) : Int).natAbs)]] [] (V.d (D.bool true)) [] ∧ K (St.mk [(6, V.d (D.bool true))] [(0, some (Blk.mk [D.bool cs1, du cl] true)), (1, some (Blk.mk [D.int IntKind.i64 (-1 : Int).sign, ib (Abs.db 2 (-1 : Int).natAbs)] true)), (2, some (Blk.mk [D.int IntKind.i64 (↑(hgt f) : Int).sign, ib (Abs.db 2 (↑(hgt f) : Int).natAbs)] true)), (7, some (Blk.mk [D.bool (decide ((↑(hgt f) : Int) < (0 : Int))), du (dig (↑(hgt f) : Int).natAbs)] true)), (8, some (Blk.mk [D.bool (decide (f.lc < (0 : Int))), du (dig f.lc.natAbs)] true))] 103)) (fun K => by kernel_rfl) ?_
  exact ⟨p6, hw1, by simp, rfl, rfl, hw1, hat, i1, p7, r7, by simp, p8, r8, by simp, rfl, rfl, ⟨rfl, rfl⟩, i2, awp_ret ⟨.inl rfl, retD rfl⟩⟩
end Go.Abs

set_option linter.unusedVariables false
set_option linter.unusedSimpArgs false
namespace Go.Abs
open Go Go.Proofs Poly

/-- at most n coefficients of at most K bits -/
structure Bd (n K : Nat) (f : Poly) : Prop where
  len : f.sz ≤ n
  ok : ∀ k, (f.c k).natAbs < 2 ^ K
theorem pw {a b : Nat} (h : a ≤ b) : 2 ^ a ≤ 2 ^ b := Nat.pow_le_pow_right (by omega) h
theorem Bd.mono {n m K L : Nat} {f : Poly} (h : Bd n K f) (hn : n ≤ m) (hK : K ≤ L) : Bd m L f := ⟨Nat.le_trans h.len hn, fun k => Nat.lt_of_lt_of_le (h.ok k) (pw hK)⟩
theorem Bd.lv {n K i : Nat} {f : Poly} (h : Bd n K f) (hn : n ≤ 100 * 2 ^ i) (hK : K ≤ 1280 * 4 ^ i) : Lv i f := ⟨Nat.le_trans h.len hn, fun k => by
  rw [show (4294967296 : Nat) = 2 ^ 32 by rfl, ← Nat.pow_mul, show 32 * (40 * 4 ^ i) = 1280 * 4 ^ i by omega]
  exact Nat.lt_of_lt_of_le (h.ok k) (pw hK)⟩
theorem Lv.bd {i : Nat} {f : Poly} (h : Lv i f) : Bd (100 * 2 ^ i) (1280 * 4 ^ i) f := ⟨h.len, h.bits⟩
theorem Bd.add {n m K L : Nat} {f g : Poly} (hf : Bd n K f) (hg : Bd m L g) : Bd (max n m) (max K L + 1) (f + g) := by
  refine ⟨Nat.le_trans (sz_add _ _) (by have := hf.len; have := hg.len; omega), fun k => ?_⟩
  have h1 := (hf.mono (Nat.le_refl _) (Nat.le_max_left K L)).ok k
  have h2 := (hg.mono (Nat.le_refl _) (Nat.le_max_right K L)).ok k
  rw [add_c, Nat.pow_succ]
  have := Int.natAbs_add_le (f.c k) (g.c k)
  omega
theorem Bd.sub {n m K L : Nat} {f g : Poly} (hf : Bd n K f) (hg : Bd m L g) : Bd (max n m) (max K L + 1) (f - g) := by
  refine ⟨Nat.le_trans (sz_sub _ _) (by have := hf.len; have := hg.len; omega), fun k => ?_⟩
  have h1 := (hf.mono (Nat.le_refl _) (Nat.le_max_left K L)).ok k
  have h2 := (hg.mono (Nat.le_refl _) (Nat.le_max_right K L)).ok k
  rw [sub_c, Nat.pow_succ]
  have := Int.natAbs_sub_le (f.c k) (g.c k)
  omega
theorem mul_lt2 {x y K L : Nat} (hx : x < 2 ^ K) (hy : y < 2 ^ L) : x * y < 2 ^ (K + L) := by
  rw [Nat.pow_add]
  exact Nat.lt_of_le_of_lt (Nat.mul_le_mul_left _ (Nat.le_of_lt hy)) (Nat.mul_lt_mul_of_pos_right hx (Nat.pow_pos (by omega)))
theorem Bd.cmul {n K L : Nat} {f : Poly} {c : Int} (hf : Bd n K f) (hc : c.natAbs < 2 ^ L) : Bd n (K + L) (C c * f) := by
  refine ⟨Nat.le_trans (sz_le fun k hk => by rw [Cmul_c, above hk]; simp) hf.len, fun k => ?_⟩
  rw [Cmul_c, Int.natAbs_mul, Nat.mul_comm]
  exact mul_lt2 (hf.ok k) hc
theorem cv_bound {c d : Nat → Int} {A B : Nat} (hc : ∀ k, (c k).natAbs ≤ A) (hd : ∀ k, (d k).natAbs ≤ B) {n : Nat} (hz : ∀ k, n ≤ k → c k = 0) (k : Nat) : (cv c d k).natAbs ≤ n * (A * B) := by
  induction k generalizing c n with
  | zero =>
    rw [cv, Int.natAbs_mul]
    cases n with
    | zero => rw [hz 0 (by omega)]; simp
    | succ n =>
      have := Nat.mul_le_mul (hc 0) (hd 0)
      rw [Nat.succ_mul]; omega
  | succ k ih =>
    rw [cv]
    cases n with
    | zero => rw [hz 0 (by omega), cvz (fun a => hz _ (by omega))]; simp
    | succ n =>
      have h1 := ih (c := fun i => c (i + 1)) (n := n) (fun j => hc _) (fun j hj => hz _ (by omega))
      have h2 : (c 0 * d (k + 1)).natAbs ≤ A * B := by rw [Int.natAbs_mul]; exact Nat.mul_le_mul (hc 0) (hd _)
      have := Int.natAbs_add_le (c 0 * d (k + 1)) (cv (fun i => c (i + 1)) d k)
      rw [Nat.succ_mul]; omega
theorem Bd.mul {n m K L s : Nat} {f g : Poly} (hf : Bd n K f) (hg : Bd m L g) (hs : n < 2 ^ s) : Bd (n + m) (K + L + s) (f * g) := by
  refine ⟨Nat.le_trans (szmul_le _ _) (Nat.add_le_add hf.len hg.len), fun k => ?_⟩
  rw [mul_c]
  have h1 := cv_bound (fun k => Nat.le_of_lt (hf.ok k)) (fun k => Nat.le_of_lt (hg.ok k)) (n := f.sz) (fun k hk => above hk) k
  have h2 : f.sz * (2 ^ K * 2 ^ L) ≤ n * (2 ^ K * 2 ^ L) := Nat.mul_le_mul_right _ hf.len
  have h3 : n * (2 ^ K * 2 ^ L) < 2 ^ s * (2 ^ K * 2 ^ L) := Nat.mul_lt_mul_of_pos_right hs (Nat.mul_pos (Nat.pow_pos (by omega)) (Nat.pow_pos (by omega)))
  rw [Nat.pow_add, Nat.pow_add, Nat.mul_comm (2 ^ K * 2 ^ L)]
  omega
theorem Bd.zero {n K : Nat} : Bd n K 0 := ⟨by rw [sz_zero]; omega, fun k => by rw [zero_c]; exact Nat.pow_pos (by omega)⟩
theorem Bd.one {n K : Nat} (hn : 1 ≤ n) (hK : 1 ≤ K) : Bd n K 1 := ⟨by rw [show (1 : Poly) = C 1 from rfl, sz_C (by decide)]; exact hn, fun k => by
  show (if k = 0 then (1 : Int) else 0).natAbs < _
  have := pw hK
  split
  · simp at this ⊢; omega
  · exact Nat.pow_pos (by omega)⟩

theorem ev_polL_nil (x : Int) : (polL []).ev x = 0 := by rw [polL_nil]; simp
theorem ev_polL_cons (a : Int) (l : List Int) (x : Int) : (polL (a :: l)).ev x = a + x * (polL l).ev x := by
  rw [ev_eq (f := polL (a :: l)) (n := l.length + 1) (fun k hk => by rw [polL_c, List.getD_eq_getElem?_getD, List.getElem?_eq_none (by simpa using hk)]; rfl),
    ev_eq (f := polL l) (n := l.length) (fun k hk => by rw [polL_c, List.getD_eq_getElem?_getD, List.getElem?_eq_none hk]; rfl), evn]
  rfl
theorem ev_polL_app (l m : List Int) (x : Int) : (polL (l ++ m)).ev x = (polL l).ev x + x ^ l.length * (polL m).ev x := by
  induction l with
  | nil => simp [ev_polL_nil]
  | cons a l ih => rw [List.cons_append, ev_polL_cons, ev_polL_cons, ih, List.length_cons, Int.pow_succ]; grind
theorem ev_cs (f : Poly) (x : Int) : (polL (cs f)).ev x = f.ev x := by rw [polL_cs]
theorem drop_cons {l : List Int} {i : Nat} (h : i < l.length) : l.drop i = l.getD i 0 :: l.drop (i + 1) := by
  rw [List.drop_eq_getElem_cons h]; simp [h]
theorem take_snoc {l : List Int} {i : Nat} (h : i < l.length) : l.take (i + 1) = l.take i ++ [l.getD i 0] := by
  rw [List.take_add_one]; simp [h]
/-- the composition -/
noncomputable def compL (g : Poly) : List Int → Poly
  | [] => 0
  | a :: l => C a + g * compL g l
noncomputable def comp (f g : Poly) : Poly := compL g (cs f)
@[simp] theorem ev_compL (g : Poly) (x : Int) : ∀ l, (compL g l).ev x = (polL l).ev (g.ev x)
  | [] => by rw [ev_polL_nil]; simp [compL]
  | a :: l => by rw [ev_polL_cons]; simp [compL, ev_compL g x l]
@[simp] theorem ev_comp (f g : Poly) (x : Int) : (comp f g).ev x = f.ev (g.ev x) := by rw [comp, ev_compL, ev_cs]
/-- scaled argument -/
def strP (f : Poly) (c : Int) : Poly := ⟨fun k => f.c k * c ^ k, f.sz, fun k hk => by rw [above hk]; simp⟩
theorem strP_c (f : Poly) (c : Int) (k : Nat) : (strP f c).c k = f.c k * c ^ k := rfl
theorem evn_str {x c : Int} : ∀ (n : Nat) (F : Nat → Int) (d : Int), evn (fun k => F k * (d * c ^ k)) n x = d * evn F n (c * x)
  | 0, F, d => by simp [evn]
  | n + 1, F, d => by
    have h := evn_str (x := x) (c := c) n (fun k => F (k + 1)) (d * c)
    rw [evn, evn]
    have e : (fun k => F (k + 1) * (d * c ^ (k + 1))) = fun k => F (k + 1) * (d * c * c ^ k) := funext fun k => by rw [Int.pow_succ]; grind
    rw [e, h]; simp; grind
@[simp] theorem ev_strP (f : Poly) (c x : Int) : (strP f c).ev x = f.ev (c * x) := by
  rw [ev_eq (f := strP f c) (n := f.sz) (fun k hk => by rw [strP_c, above hk]; simp), ev_eq (f := f) (n := f.sz) (fun k hk => above hk)]
  have := evn_str (x := x) (c := c) f.sz f.c 1
  rw [Int.one_mul] at this
  rw [← this]
  congr 1
  exact funext fun k => by rw [strP_c, Int.one_mul]
/-- reversed coefficients -/
def revP (f : Poly) (n : Nat) : Poly := ⟨fun k => if k < n then f.c (n - 1 - k) else 0, n, fun k hk => by rw [if_neg (by omega)]⟩
theorem revP_c (f : Poly) (n k : Nat) : (revP f n).c k = if k < n then f.c (n - 1 - k) else 0 := rfl
/-- canonical coefficients of a list -/
def ro (l : List Int) : List RI := l.map riz
@[simp] theorem ro_len (l : List Int) : (ro l).length = l.length := by simp [ro]
theorem ro_get {l : List Int} {i : Nat} {x : Int} (h : l[i]? = some x) : (ro l)[i]? = some (riz x) := by simp [ro, h]
theorem ro_set (l : List Int) (i : Nat) (x : Int) : (ro l).set i (riz x) = ro (l.set i x) := by simp [ro, List.map_set]
theorem cp_ro (f : Poly) : cp f = ro (cs f) := rfl
theorem ro_tb (F : Nat → Int) (n : Nat) : ro (tb F n) = mz F n := by simp [ro, tb, mz]
theorem setCells_ro (l : List Int) (i : Nat) (x : Int) : setCells (rc (ro l)) (i * 2) (iz x) = rc (ro (l.set i x)) := by
  have := setCells_rc (ro l) i (riz x)
  rw [ro_set, ic_riz] at this
  exact this
theorem getD_some {l : List Int} {i : Nat} (h : i < l.length) : l[i]? = some (l.getD i 0) := by simp [h]
theorem Bz.set {K : Nat} {l : List Int} (h : Bz K l) {i : Nat} {x : Int} (hx : x.natAbs < 2 ^ K) : Bz K (l.set i x) := fun z hz => by
  rcases List.mem_or_eq_of_mem_set hz with h1 | h1
  · exact h z h1
  · rw [h1]; exact hx
theorem Bz.mono {K L : Nat} {l : List Int} (h : Bz K l) (hK : K ≤ L) : Bz L l := fun z hz => Nat.lt_of_lt_of_le (h z hz) (pw hK)
theorem riz_bits {z : Int} {K : Nat} (h : z.natAbs < 2 ^ K) (hK : K ≤ 2 ^ 40) : Dg (riz z).2 ∧ (riz z).2.length ≤ 2 ^ 36 :=
  ⟨dig_lt _, Nat.le_trans (dig_len (Nat.lt_of_lt_of_le h (pow32 (E := K / 32 + 1) (by omega)))) (by omega)⟩
end Go.Abs

set_option linter.unusedVariables false
set_option linter.unusedSimpArgs false
namespace Go.Abs
open Go Go.Proofs Poly
set_option maxRecDepth 100000

theorem getD_set {l : List Int} {i k : Nat} {x : Int} (h : i < l.length) : (l.set i x).getD k 0 = if k = i then x else l.getD k 0 := by
  rw [List.getD_eq_getElem?_getD, List.getD_eq_getElem?_getD, List.getElem?_set]
  by_cases e : i = k
  · subst e; rw [if_pos rfl, if_pos h, if_pos rfl]; rfl
  · rw [if_neg e, if_neg (by omega)]
theorem rc_own {ps : List RI} {i : Nat} {p : RI} (h : ps[i]? = some p) : (rc ps)[0 + ((i : Nat) : Int).toNat * 2]? = some (.bool p.1) ∧ (rc ps)[0 + ((i : Nat) : Int).toNat * 2 + 1]? = some (du p.2) := by
  rw [Int.toNat_natCast, Nat.zero_add]; exact ⟨rc_get0 h, rc_get1 h⟩
theorem mulI {x y : Int} {K L : Nat} (hx : x.natAbs < 2 ^ K) (hy : y.natAbs < 2 ^ L) (hK : K ≤ 2 ^ 40) (hL : L ≤ 2 ^ 40) : Fn Try.prog 123 [.agg (ic (riz x).1 (riz x).2), .agg (ic (riz y).1 (riz y).2)] [] (.agg (iz (x * y))) [] := by
  have h1 := riz_bits hx hK
  have h2 := riz_bits hy hL
  have := imul_fn (riz x).1 (riz y).1 (riz x).2 (riz y).2 (by omega) (by omega) h1.1 h2.1
  rwa [show ival (riz x).1 (riz x).2 = x from rval_riz _, show ival (riz y).1 (riz y).2 = y from rval_riz _] at this
theorem addI {x y : Int} {K L : Nat} (hx : x.natAbs < 2 ^ K) (hy : y.natAbs < 2 ^ L) (hK : K ≤ 2 ^ 40) (hL : L ≤ 2 ^ 40) : Fn Try.prog 96 [.agg (ic (riz x).1 (riz x).2), .agg (ic (riz y).1 (riz y).2)] [] (.agg (iz (x + y))) [] := by
  have h1 := riz_bits hx hK
  have h2 := riz_bits hy hL
  have := iadd_fn (riz x).1 (riz y).1 (riz x).2 (riz y).2 (by omega) (by omega) h1.1 h2.1
  rwa [show ival (riz x).1 (riz x).2 = x from rval_riz _, show ival (riz y).1 (riz y).2 = y from rval_riz _] at this
/-- a raw number times a canonical one -/
theorem mulI2 {s : Bool} {l : List Nat} {y : Int} {L : Nat} (hl : Dg l) (hl2 : l.length ≤ 2 ^ 36) (hy : y.natAbs < 2 ^ L) (hL : L ≤ 2 ^ 40) : Fn Try.prog 123 [.agg (ic s l), .agg (ic (riz y).1 (riz y).2)] [] (.agg (iz (ival s l * y))) [] := by
  have h2 := riz_bits hy hL
  have := imul_fn s (riz y).1 l (riz y).2 (by omega) (by omega) hl h2.1
  rwa [show ival (riz y).1 (riz y).2 = y from rval_riz _] at this
theorem mulI3 {s : Bool} {l : List Nat} {y : Int} {L : Nat} (hl : Dg l) (hl2 : l.length ≤ 2 ^ 36) (hy : y.natAbs < 2 ^ L) (hL : L ≤ 2 ^ 40) : Fn Try.prog 123 [.agg (ic (riz y).1 (riz y).2), .agg (ic s l)] [] (.agg (iz (y * ival s l))) [] := by
  have h2 := riz_bits hy hL
  have := imul_fn (riz y).1 s (riz y).2 l (by omega) (by omega) h2.1 hl
  rwa [show ival (riz y).1 (riz y).2 = y from rval_riz _] at this

theorem shiftP {n K L : Nat} {ps : List RI} {s : Bool} {l : List Nat} (hpn : ps.length ≤ 2 ^ 39) (hpo : Pok (2 ^ 39) ps) (hf : Bd n K (pol ps)) (hl1 : Dg l) (hl2 : l.length ≤ 2 ^ 36) (hc : (ival s l).natAbs < 2 ^ L) (hn : n ≤ 2 ^ 39)
    (hb : K + n * n * (L + 1) ≤ 2 ^ 40) : Fn Try.prog 53 [.d (rp ps), .agg (ic s l)] [] (.d (rp (cp (comp (pol ps) (X + C (ival s l)))))) [] ∧ Bd n (K + n * n * (L + 1)) (comp (pol ps) (X + C (ival s l))) := by
  obtain ⟨f, hfp⟩ : ∃ f, f = pol ps := ⟨_, rfl⟩
  obtain ⟨c, hcd⟩ : ∃ c, c = ival s l := ⟨_, rfl⟩
  rw [← hfp] at hf ⊢
  rw [← hcd] at hc ⊢
  obtain ⟨N, hN⟩ : ∃ N, N = f.sz := ⟨_, rfl⟩
  have hNn : N ≤ n := hN ▸ hf.len
  obtain ⟨In, hI0, hI⟩ : ∃ In : List Int → Nat → List Int, (∀ o, In o 0 = o) ∧ ∀ o t, In o (t + 1) = (In o t).set (N - 2 - t) ((In o t).getD (N - 2 - t) 0 + c * (In o t).getD (N - 2 - t + 1) 0) :=
    ⟨fun o t => Nat.rec o (fun t p => p.set (N - 2 - t) (p.getD (N - 2 - t) 0 + c * p.getD (N - 2 - t + 1) 0)) t, fun _ => rfl, fun _ _ => rfl⟩
  obtain ⟨O, hO0, hO⟩ : ∃ O : Nat → List Int, O 0 = cs f ∧ ∀ i, O (i + 1) = In (O i) (N - 1 - i) :=
    ⟨fun i => Nat.rec (cs f) (fun i o => In o (N - 1 - i)) i, rfl, fun _ => rfl⟩
  have inner : ∀ (o : List Int) (B : Nat), o.length = N → Bz B o → ∀ t, t + 1 ≤ N → (In o t).length = N ∧ Bz (B + t * (L + 1)) (In o t) ∧ (In o t).take (N - 1 - t) = o.take (N - 1 - t) ∧ (In o t).getD (N - 1) 0 = o.getD (N - 1) 0 ∧
      ∀ y, (polL (o.drop (N - 1 - t))).ev y = (In o t).getD (N - 1 - t) 0 + (y - c) * (polL ((In o t).drop (N - t))).ev y := by
    intro o B hol hob t
    induction t with
    | zero =>
      intro h
      rw [hI0]
      refine ⟨hol, by simpa using hob, rfl, rfl, fun y => ?_⟩
      rw [Nat.sub_zero, drop_cons (by omega), ev_polL_cons, show N - 1 + 1 = N by omega, Nat.sub_zero, List.drop_eq_nil_of_le (by omega), ev_polL_nil]
      simp
    | succ t ih =>
      intro h
      obtain ⟨h1, h2, h3, h4, h5⟩ := ih (by omega)
      obtain ⟨k, hk⟩ : ∃ k, k = N - 2 - t := ⟨_, rfl⟩
      obtain ⟨p, hp⟩ : ∃ p, p = In o t := ⟨_, rfl⟩
      rw [hI, ← hk, ← hp]
      rw [← hp] at h1 h2 h3 h4 h5
      have e1 : N - 1 - t = k + 1 := by omega
      have e2 : N - t = k + 2 := by omega
      have e3 : N - 1 - (t + 1) = k := by omega
      have e4 : N - (t + 1) = k + 1 := by omega
      rw [e1] at h3 h5
      rw [e2] at h5
      rw [e3, e4]
      have hkl : k < p.length := by omega
      have hpk : p.getD k 0 = o.getD k 0 := by
        have := congrArg (fun l => l.getD k 0) h3
        simpa [List.getD_eq_getElem?_getD, List.getElem?_take] using this
      refine ⟨by simp [h1], ?_, ?_, ?_, fun y => ?_⟩
      · refine Bz.set (h2.mono (by rw [Nat.succ_mul]; omega)) ?_
        have a1 := h2.getD k
        have a2 := h2.getD (k + 1)
        have a3 := mul_lt2 hc a2
        have a4 : (c * p.getD (k + 1) 0).natAbs < 2 ^ (L + (B + t * (L + 1))) := by rw [Int.natAbs_mul]; exact a3
        have a5 := Int.natAbs_add_le (p.getD k 0) (c * p.getD (k + 1) 0)
        have a6 : 2 ^ (B + t * (L + 1)) ≤ 2 ^ (L + (B + t * (L + 1))) := pw (by omega)
        rw [show B + (t + 1) * (L + 1) = (L + (B + t * (L + 1))) + 1 by rw [Nat.succ_mul]; omega, Nat.pow_succ]
        omega
      · rw [List.take_set, List.set_eq_of_length_le (by rw [List.length_take]; omega)]
        have := congrArg (List.take k) h3
        rw [List.take_take, List.take_take, Nat.min_eq_left (by omega)] at this
        exact this
      · rw [getD_set hkl, if_neg (by omega)]; exact h4
      · rw [drop_cons (by omega), ev_polL_cons, h5, getD_set hkl, if_pos rfl, List.drop_set_of_lt (by omega), drop_cons (l := p) (i := k + 1) (by omega), ev_polL_cons, hpk]
        grind
  have outer : ∀ i, i ≤ N → (O i).length = N ∧ Bz (K + i * N * (L + 1)) (O i) ∧ (O i).getD (N - 1) 0 = f.c (N - 1) ∧
      ∀ y, f.ev y = (polL ((O i).take i)).ev (y - c) + (y - c) ^ i * (polL ((O i).drop i)).ev y := by
    intro i
    induction i with
    | zero =>
      intro _
      rw [hO0]
      refine ⟨by rw [cs_len, hN], by simpa using Bz.cs hf.ok, cs_getD _ _, fun y => ?_⟩
      rw [List.take_zero, List.drop_zero, ev_polL_nil, ev_cs]; simp
    | succ i ih =>
      intro hi
      obtain ⟨h1, h2, h3, h4⟩ := ih (by omega)
      obtain ⟨g1, g2, g3, g4, g5⟩ := inner (O i) _ h1 h2 (N - 1 - i) (by omega)
      rw [hO]
      rw [show N - 1 - (N - 1 - i) = i by omega] at g3 g5
      rw [show N - (N - 1 - i) = i + 1 by omega] at g5
      refine ⟨g1, g2.mono ?_, g4.trans h3, fun y => ?_⟩
      · have : (N - 1 - i) * (L + 1) ≤ N * (L + 1) := Nat.mul_le_mul_right _ (by omega)
        rw [Nat.succ_mul, Nat.add_mul]; omega
      · rw [h4 y, g5 y, take_snoc (by omega), ev_polL_app, ev_polL_cons, ev_polL_nil, g3, List.length_take, Nat.min_eq_left (by omega), Int.pow_succ]
        grind
  obtain ⟨z1, z2, z3, z4⟩ := outer N (Nat.le_refl _)
  have hres : polL (O N) = comp f (X + C c) := ext_ev fun y _ => by
    have := z4 (y + c)
    rw [List.take_of_length_le (by omega), List.drop_eq_nil_of_le (by omega), ev_polL_nil, show y + c - c = y by omega] at this
    simp [this]
  have hcan : cs (polL (O N)) = O N := cs_of_last (by
    by_cases h0 : N = 0
    · left; exact List.length_eq_zero_iff.1 (by omega)
    · right
      refine ⟨_, getD_some (by omega), ?_⟩
      rw [z1, z3, hN]
      exact last (by omega))
  have hcp : cp (comp f (X + C c)) = ro (O N) := by rw [← hres, cp_ro, hcan]
  have hNN : N * N ≤ n * n := Nat.mul_le_mul hNn hNn
  have hNb : N * N * (L + 1) ≤ n * n * (L + 1) := Nat.mul_le_mul_right _ hNN
  refine And.symm ⟨by
    rw [← hres]
    refine ⟨Nat.le_trans (polL_sz _) (by omega), fun k => ?_⟩
    exact Nat.lt_of_lt_of_le (z2.getD k) (pw (by omega)), ?_⟩
  rw [hcp]
  have hno := normO_fn ps hpn hpo
  rw [← hfp, ← hN] at hno
  refine fn0 (nt := 40) (res := [.tmp 4]) Try.func53 rfl (by decide) rfl rfl rfl rfl ?_
  intro Cx hP hnt hl
  refine awp_sx prog_ok hP hnt [] [] [] [0, 3] (by kernel_rfl) (G := fun K => K (St.mk [(0, V.d (rp ps)), (3, V.ptr 0 0)] [(0, some (Blk.mk [D.bool s, du l] true))] 2)) (fun K => by kernel_rfl) ?_
  refine awp_sx prog_ok hP hnt [] [.own N 2 (rc (cp f))] [] [3, 5] (by kernel_rfl) (G := fun K => Fn Try.prog 63 [V.d (rp ps)] [] (V.own 3 0 N 2) [(3, Blk.mk (rc (cp f)) true)] ∧ K (St.mk [(3, V.ptr 0 0), (5, V.own 3 0 N 2)] [(0, some (Blk.mk [D.bool s, du l] true)), (3, some (Blk.mk (rc (cp f)) true))] 5)) (fun K => by kernel_rfl) ?_
  refine ⟨hno _, ?_⟩
  refine awp_cut (ι := Unit) (fun _ => ⟨[(5, .own 0 0 N 2)], [(0, some ⟨rc (ro (O N)), true⟩)], 1⟩) (fun _ => True) ?_ ?_
  · refine awp_sx prog_ok hP hnt [] [] [] [3, 5, 11, 12] (by kernel_rfl) (G := fun K => K (St.mk [(3, V.ptr 0 0), (5, V.own 3 0 N 2), (11, V.d (D.int IntKind.i64 (↑N : Int))), (12, V.d (D.int IntKind.i64 (0 : Int)))] [(0, some (Blk.mk [D.bool s, du l] true)), (3, some (Blk.mk (rc (cp f)) true))] 8)) (fun K => by kernel_rfl) ?_
    refine awp_block ?_
    refine awp_loop (ι := Nat) (fun i => ⟨[(3, .ptr 0 0), (5, .own 1 0 N 2), (11, .d (.int .i64 N)), (12, .d (.int .i64 i))], [(0, some ⟨ic s l, true⟩), (1, some ⟨rc (ro (O i)), true⟩)], 2⟩)
      (fun i => i ≤ N) (fun i => N - i) 0 [(0, 0), (1, 3)] (by simp) ?_ ?_
    · (constructor <;> simp [hl, envOk, memOk, conv, St.get, St.blk, hO0, cp_ro, ic])
    intro i hi
    obtain ⟨h1, h2, h3, h4⟩ := outer i hi
    refine awp_sx prog_ok hP hnt [] [] [] [3, 5, 11, 12, 13] (by kernel_rfl) (G := fun K => K (St.mk [(3, V.ptr 0 0), (5, V.own 1 0 N 2), (11, V.d (D.int IntKind.i64 (↑N : Int))), (12, V.d (D.int IntKind.i64 (↑i : Int))), (13, V.d (D.bool (decide ((↑i : Int) < (↑N : Int)))))] [(0, some (Blk.mk [D.bool s, du l] true)), (1, some (Blk.mk (rc (ro (O i))) true))] 3)) (fun K => by kernel_rfl) ?_
    refine awp_seq_k fun K1 hK1 => ?_
    refine awp_cond rfl (fun e => awp_skip (hK1 _ ?_)) (fun e => awp_exit ⟨(), [(0, 1)], trivial, ?_⟩)
    · simp at e
      refine awp_seq_k fun K2 hK2 => ?_
      refine awp_block ?_
      refine awp_sx prog_ok hP hnt [] [] [] [3, 5, 6, 11, 12] (by kernel_rfl) (G := fun K => K (St.mk [(3, V.ptr 0 0), (5, V.own 1 0 N 2), (11, V.d (D.int IntKind.i64 (↑N : Int))), (12, V.d (D.int IntKind.i64 (↑i : Int))), (6, V.d (D.int IntKind.i64 (↑i : Int)))] [(0, some (Blk.mk [D.bool s, du l] true)), (1, some (Blk.mk (rc (ro (O i))) true))] 5)) (fun K => by kernel_rfl) ?_
      refine awp_sx prog_ok hP hnt [(17, .int .i64 ((N : Int) - 2))] [] [] [3, 5, 6, 7, 11, 12] (by kernel_rfl) (G := fun K => IntKind.i64.wrap ((↑N : Int) - (2 : Int)) = (↑N : Int) - (2 : Int) ∧ K (St.mk [(3, V.ptr 0 0), (5, V.own 1 0 N 2), (11, V.d (D.int IntKind.i64 (↑N : Int))), (12, V.d (D.int IntKind.i64 (↑i : Int))), (6, V.d (D.int IntKind.i64 (↑i : Int))), (7, V.d (D.int IntKind.i64 ((↑N : Int) - (2 : Int))))] [(0, some (Blk.mk [D.bool s, du l] true)), (1, some (Blk.mk (rc (ro (O i))) true))] 9)) (fun K => by kernel_rfl) ?_
      refine ⟨by rw [w64] <;> omega, ?_⟩
      refine awp_block ?_
      refine awp_loop (ι := Nat) (fun t => ⟨[(3, .ptr 0 0), (5, .own 1 0 N 2), (6, .d (.int .i64 i)), (7, .d (.int .i64 ((N : Int) - 2 - t))), (11, .d (.int .i64 N)), (12, .d (.int .i64 i))], [(0, some ⟨ic s l, true⟩), (1, some ⟨rc (ro (In (O i) t)), true⟩)], 2⟩)
        (fun t => t ≤ N - 1 - i) (fun t => N - 1 - i - t) 0 [(0, 0), (1, 1)] (by simp) ?_ ?_
      · (constructor <;> simp [hl, envOk, memOk, conv, St.get, St.blk, hI0, ic])
      intro t ht
      obtain ⟨g1, g2, g3, g4, g5⟩ := inner (O i) _ h1 h2 t (by omega)
      refine awp_seq_k fun K3 hK3 => ?_
      refine awp_sx prog_ok hP hnt [] [] [] [3, 5, 6, 7, 11, 12, 20] (by kernel_rfl) (G := fun K => K (St.mk [(3, V.ptr 0 0), (5, V.own 1 0 N 2), (6, V.d (D.int IntKind.i64 (↑i : Int))), (7, V.d (D.int IntKind.i64 ((↑N : Int) - (2 : Int) - (↑t : Int)))), (11, V.d (D.int IntKind.i64 (↑N : Int))), (12, V.d (D.int IntKind.i64 (↑i : Int))), (20, V.d (D.bool (decide ((↑N : Int) - (2 : Int) - (↑t : Int) ≥ (↑i : Int)))))] [(0, some (Blk.mk [D.bool s, du l] true)), (1, some (Blk.mk (rc (ro (In (O i) t))) true))] 5)) (fun K => by kernel_rfl) ?_
      refine awp_cond rfl (fun e2 => awp_skip (hK3 _ ?_)) (fun e2 => awp_exit (hK2 _ ?_))
      · simp at e2
        obtain ⟨k, hk⟩ : ∃ k, k = N - 2 - t := ⟨_, rfl⟩
        have hki : (N : Int) - 2 - t = k := by omega
        rw [hki]
        have hIt := hI (O i) t
        rw [← hk] at hIt
        generalize hp : In (O i) t = p at *
        have a1 := getD_some (l := p) (i := k) (by omega)
        have a2 := getD_some (l := p) (i := k + 1) (by omega)
        have b1 := g2.getD k
        have b2 := g2.getD (k + 1)
        have hbt : K + i * N * (L + 1) + t * (L + 1) + (L + 1) ≤ K + N * N * (L + 1) := by
          have : (i * N + t + 1) * (L + 1) ≤ N * N * (L + 1) := Nat.mul_le_mul_right _ (by
            have : (i + 1) * N ≤ N * N := Nat.mul_le_mul_right _ (by omega)
            rw [Nat.succ_mul] at this
            omega)
          rw [Nat.add_mul, Nat.add_mul] at this
          omega
        generalize p.getD k 0 = u at *
        generalize p.getD (k + 1) 0 = v at *
        have m1 := mulI2 (s := s) hl1 hl2 b2 (by omega)
        rw [← hcd] at m1
        have b3 : (c * v).natAbs < 2 ^ (L + (K + i * N * (L + 1) + t * (L + 1))) := by rw [Int.natAbs_mul]; exact mul_lt2 hc b2
        have m2 := addI b1 b3 (by omega) (by omega)
        have hsc := setCells_ro p k (u + c * v)
        rw [← hIt] at hsc
        refine awp_seq_k fun K4 hK4 => ?_
        refine awp_block ?_
        refine awp_x prog_ok hP hnt [(32, .int .i64 (k + 1 : Nat))] [.val (.agg (iz (c * v))), .val (.agg (iz (u + c * v)))] [some (iz u), some (ic s l), some (iz v)] [3, 5, 6, 7, 11, 12] (by kernel_rfl) (G := fun K => ((0 : Int) ≤ (↑k : Int) ∧ (↑k : Int) < (↑N : Int)) ∧ ((rc (ro p))[0 + (↑k : Int).toNat * 2]? = some (D.bool (decide (u < (0 : Int)))) ∧ (rc (ro p))[0 + (↑k : Int).toNat * 2 + 1]? = some (du (dig u.natAbs))) ∧ ([D.bool s, du l][0]? = some (D.bool s) ∧ [D.bool s, du l][1]? = some (du l)) ∧ IntKind.i64.wrap ((↑k : Int) + (1 : Int)) = (↑(k + 1) : Int) ∧ ((0 : Int) ≤ (↑(k + 1) : Int) ∧ (↑(k + 1) : Int) < (↑N : Int)) ∧ ((rc (ro p))[0 + (↑(k + 1) : Int).toNat * 2]? = some (D.bool (decide (v < (0 : Int)))) ∧ (rc (ro p))[0 + (↑(k + 1) : Int).toNat * 2 + 1]? = some (du (dig v.natAbs))) ∧ Fn Try.prog 123 [V.agg [D.bool s, du l], V.agg [D.bool (decide (v < (0 : Int))), du (dig v.natAbs)]] [] (V.agg [D.bool (decide (c * v < (0 : Int))), du (dig (c * v).natAbs)]) [] ∧ Fn Try.prog 96 [V.agg [D.bool (decide (u < (0 : Int))), du (dig u.natAbs)], V.agg [D.bool (decide (c * v < (0 : Int))), du (dig (c * v).natAbs)]] [] (V.agg [D.bool (decide (u + c * v < (0 : Int))), du (dig (u + c * v).natAbs)]) [] ∧ ((0 : Int) ≤ (↑k : Int) ∧ (↑k : Int) < (↑N : Int)) ∧ 0 + (↑k : Int).toNat * 2 + (iz (u + c * v)).length ≤ (rc (ro p)).length ∧ K (St.mk [(3, V.ptr 0 0), (5, V.own 1 0 N 2), (6, V.d (D.int IntKind.i64 (↑i : Int))), (7, V.d (D.int IntKind.i64 (↑k : Int))), (11, V.d (D.int IntKind.i64 (↑N : Int))), (12, V.d (D.int IntKind.i64 (↑i : Int)))] [(0, some (Blk.mk [D.bool s, du l] true)), (1, some (Blk.mk (setCells (rc (ro p)) (0 + (↑k : Int).toNat * 2) (iz (u + c * v))) true))] 21)) (fun K => by kernel_rfl) ?_
        refine ⟨⟨by omega, by omega⟩, rc_own (ro_get a1), ⟨rfl, rfl⟩, by rw [w64] <;> omega, ⟨by omega, by omega⟩, rc_own (ro_get a2), m1, m2, ⟨by omega, by omega⟩, ?_, hK4 _ ?_⟩
        · rw [rc_len, ro_len, g1, Int.toNat_natCast, Nat.zero_add]; show k * 2 + 2 ≤ N * 2; omega
        refine awp_x prog_ok hP hnt [(22, .int .i64 ((N : Int) - 2 - (t + 1 : Nat)))] [] [] [3, 5, 6, 7, 11, 12] (by kernel_rfl) (G := fun K => IntKind.i64.wrap ((↑k : Int) - (1 : Int)) = (↑N : Int) - (2 : Int) - (↑(t + 1) : Int) ∧ K (St.mk [(3, V.ptr 0 0), (5, V.own 1 0 N 2), (6, V.d (D.int IntKind.i64 (↑i : Int))), (7, V.d (D.int IntKind.i64 ((↑N : Int) - (2 : Int) - (↑(t + 1) : Int)))), (11, V.d (D.int IntKind.i64 (↑N : Int))), (12, V.d (D.int IntKind.i64 (↑i : Int)))] [(0, some (Blk.mk [D.bool s, du l] true)), (1, some (Blk.mk (setCells (rc (ro p)) (0 + (↑k : Int).toNat * 2) (iz (u + c * v))) true))] 24)) (fun K => by kernel_rfl) ?_
        refine ⟨by rw [w64] <;> omega, t + 1, [(0, 0), (1, 1)], ⟨by omega, by omega⟩, ?_⟩
        rw [Int.toNat_natCast, Nat.zero_add, hsc]
        (constructor <;> simp [hl, envOk, memOk, conv, St.get, St.blk, ic])
      · simp at e2
        have : t = N - 1 - i := by omega
        subst this
        refine awp_x prog_ok hP hnt [(38, .int .i64 (i + 1 : Nat))] [] [] [3, 5, 11, 12] (by kernel_rfl) (G := fun K => IntKind.i64.wrap ((↑i : Int) + (1 : Int)) = (↑(i + 1) : Int) ∧ K (St.mk [(3, V.ptr 0 0), (5, V.own 1 0 N 2), (11, V.d (D.int IntKind.i64 (↑N : Int))), (12, V.d (D.int IntKind.i64 (↑(i + 1) : Int)))] [(0, some (Blk.mk [D.bool s, du l] true)), (1, some (Blk.mk (rc (ro (In (O i) (N - 1 - i)))) true))] 7)) (fun K => by kernel_rfl) ?_
        refine ⟨by rw [w64] <;> omega, i + 1, [(0, 0), (1, 1)], ⟨by omega, by omega⟩, ?_⟩
        (constructor <;> simp [hl, envOk, memOk, conv, St.get, St.blk, hO, ic])
    · simp at e
      have : i = N := by omega
      subst this
      (constructor <;> simp [hl, envOk, memOk, conv, St.get, St.blk])
  intro _ _
  refine awp_sx prog_ok hP hnt [] [] [] [4] (by kernel_rfl) (G := fun K => K (St.mk [(4, V.own 0 0 N 2)] [(0, some (Blk.mk (rc (ro (O N))) true))] 3)) (fun K => by kernel_rfl) ?_
  refine awp_ret ⟨.inl rfl, retOwn rfl rfl ?_⟩
  exact own_rp (by simp [z1])
end Go.Abs

set_option linter.unusedVariables false
set_option linter.unusedSimpArgs false
namespace Go.Abs
open Go Go.Proofs Poly
set_option maxRecDepth 100000

theorem pow_bits {c : Int} {L : Nat} (h : c.natAbs < 2 ^ L) (k : Nat) : (c ^ k).natAbs < 2 ^ (k * L + 1) := by
  have : (c ^ k).natAbs ≤ 2 ^ (k * L) := by
    induction k with
    | zero => simp
    | succ k ih =>
      rw [Int.pow_succ, Int.natAbs_mul, Nat.succ_mul, Nat.pow_add]
      exact Nat.mul_le_mul ih (Nat.le_of_lt h)
  rw [Nat.pow_succ]
  have := Nat.pow_pos (n := k * L) (a := 2) (by omega)
  omega

theorem stretchP {n K L : Nat} {ps : List RI} {s : Bool} {l : List Nat} (hpn : ps.length ≤ 2 ^ 39) (hpo : Pok (2 ^ 39) ps) (hf : Bd n K (pol ps)) (hl1 : Dg l) (hl2 : l.length ≤ 2 ^ 36) (hc : (ival s l).natAbs < 2 ^ L) (hn : n ≤ 2 ^ 39)
    (hb : K + n * L + 1 ≤ 2 ^ 40) : Fn Try.prog 56 [.d (rp ps), .agg (ic s l)] [] (.d (rp (cp (strP (pol ps) (ival s l))))) [] ∧ Bd n (K + n * L + 1) (strP (pol ps) (ival s l)) := by
  obtain ⟨f, hfp⟩ : ∃ f, f = pol ps := ⟨_, rfl⟩
  obtain ⟨c, hcd⟩ : ∃ c, c = ival s l := ⟨_, rfl⟩
  rw [← hfp] at hf ⊢
  rw [← hcd] at hc ⊢
  obtain ⟨N, hN⟩ : ∃ N, N = f.sz := ⟨_, rfl⟩
  have hNn : N ≤ n := hN ▸ hf.len
  have hbk : ∀ k, k < N → (f.c k * c ^ k).natAbs < 2 ^ (K + n * L + 1) := fun k hk => by
    rw [Int.natAbs_mul]
    refine Nat.lt_of_lt_of_le (mul_lt2 (hf.ok k) (pow_bits hc k)) (pw ?_)
    have : k * L ≤ n * L := Nat.mul_le_mul_right _ (by omega)
    omega
  have hss : (strP f c).sz ≤ N := sz_le fun k hk => by rw [strP_c, above (by omega)]; simp
  have hsb : ∀ k, ((strP f c).c k).natAbs < 2 ^ (K + n * L + 1) := fun k => by
    by_cases h : k < N
    · exact hbk k h
    · rw [strP_c, above (by omega)]; simp; exact Nat.pow_pos (by omega)
  refine And.symm ⟨⟨by omega, hsb⟩, ?_⟩
  obtain ⟨F, hF⟩ : ∃ F : Nat → Nat → Int, F = fun i k => if k < i then f.c k * c ^ k else f.c k := ⟨_, rfl⟩
  have hF0 : tb (F 0) N = cs f := by rw [hF, cs, hN, tb]; exact List.map_congr_left fun k _ => by simp
  have hFN : tb (F N) N = tb (strP f c).c N := tb_ext fun k hk => by rw [hF]; simp only; rw [if_pos hk]; rfl
  have hFs : ∀ i, (tb (F i) N).set i (f.c i * c ^ i) = tb (F (i + 1)) N := fun i => tb_set (by rw [hF]; simp) fun k hk _ => by
    rw [hF]; simp only
    by_cases h : k < i
    · rw [if_pos h, if_pos (by omega)]
    · rw [if_neg h, if_neg (by omega)]
  have hno := normO_fn ps hpn hpo
  rw [← hfp, ← hN] at hno
  have hof := iOf_fn 1 (by omega) (by omega)
  refine fn0 (nt := 31) (res := [.tmp 4]) Try.func56 rfl (by decide) rfl rfl rfl rfl ?_
  intro Cx hP hnt hl
  refine awp_sx prog_ok hP hnt [] [] [] [0, 3] (by kernel_rfl) (G := fun K => K (St.mk [(0, V.d (rp ps)), (3, V.ptr 0 0)] [(0, some (Blk.mk [D.bool s, du l] true))] 2)) (fun K => by kernel_rfl) ?_
  refine awp_sx prog_ok hP hnt [] [.own N 2 (rc (cp f))] [] [3, 5] (by kernel_rfl) (G := fun K => Fn Try.prog 63 [V.d (rp ps)] [] (V.own 3 0 N 2) [(3, Blk.mk (rc (cp f)) true)] ∧ K (St.mk [(3, V.ptr 0 0), (5, V.own 3 0 N 2)] [(0, some (Blk.mk [D.bool s, du l] true)), (3, some (Blk.mk (rc (cp f)) true))] 5)) (fun K => by kernel_rfl) ?_
  refine ⟨hno _, ?_⟩
  refine awp_sx prog_ok hP hnt [] [.val (.agg (iz 1))] [] [3, 5, 6] (by kernel_rfl) (G := fun K => Fn Try.prog 74 [V.d (D.int IntKind.i64 (1 : Int))] [] (V.agg [D.bool (decide ((1 : Int) < (0 : Int))), du (dig (Int.natAbs (1 : Int)))]) [] ∧ 2 ≤ (TI.mk (Kind.struct [(0, 1), (1, 1)]) 2 32 [D.bool false, D.lst 0 []]).zero.length ∧ K (St.mk [(3, V.ptr 0 0), (5, V.own 3 0 N 2), (6, V.ptr 6 0)] [(0, some (Blk.mk [D.bool s, du l] true)), (3, some (Blk.mk (rc (cp f)) true)), (6, some (Blk.mk [D.bool (decide ((1 : Int) < (0 : Int))), du (dig (Int.natAbs (1 : Int)))] true))] 8)) (fun K => by kernel_rfl) ?_
  refine ⟨hof, by simp [iz], ?_⟩
  refine awp_cut (ι := Unit) (fun _ => ⟨[(5, .own 0 0 N 2)], [(0, some ⟨rc (ro (tb (F N) N)), true⟩)], 1⟩) (fun _ => True) ?_ ?_
  · refine awp_sx prog_ok hP hnt [] [] [] [3, 5, 6, 12, 13] (by kernel_rfl) (G := fun K => K (St.mk [(3, V.ptr 0 0), (5, V.own 3 0 N 2), (6, V.ptr 6 0), (12, V.d (D.int IntKind.i64 (↑N : Int))), (13, V.d (D.int IntKind.i64 (0 : Int)))] [(0, some (Blk.mk [D.bool s, du l] true)), (3, some (Blk.mk (rc (cp f)) true)), (6, some (Blk.mk [D.bool (decide ((1 : Int) < (0 : Int))), du (dig (Int.natAbs (1 : Int)))] true))] 11)) (fun K => by kernel_rfl) ?_
    refine awp_block ?_
    refine awp_loop (ι := Nat) (fun i => ⟨[(3, .ptr 0 0), (5, .own 1 0 N 2), (6, .ptr 2 0), (12, .d (.int .i64 N)), (13, .d (.int .i64 i))], [(0, some ⟨ic s l, true⟩), (1, some ⟨rc (ro (tb (F i) N)), true⟩), (2, some ⟨iz (c ^ i), true⟩)], 3⟩)
      (fun i => i ≤ N) (fun i => N - i) 0 [(0, 0), (1, 3), (2, 6)] (by simp) ?_ ?_
    · (constructor <;> simp [hl, envOk, memOk, conv, St.get, St.blk, hF0, cp_ro, ic, iz])
    intro i hi
    refine awp_sx prog_ok hP hnt [] [] [] [3, 5, 6, 12, 13, 14] (by kernel_rfl) (G := fun K => K (St.mk [(3, V.ptr 0 0), (5, V.own 1 0 N 2), (6, V.ptr 2 0), (12, V.d (D.int IntKind.i64 (↑N : Int))), (13, V.d (D.int IntKind.i64 (↑i : Int))), (14, V.d (D.bool (decide ((↑i : Int) < (↑N : Int)))))] [(0, some (Blk.mk [D.bool s, du l] true)), (1, some (Blk.mk (rc (ro (tb (F i) N))) true)), (2, some (Blk.mk [D.bool (decide (c ^ i < (0 : Int))), du (dig (c ^ i).natAbs)] true))] 4)) (fun K => by kernel_rfl) ?_
    refine awp_seq_k fun K1 hK1 => ?_
    refine awp_cond rfl (fun e => awp_skip (hK1 _ ?_)) (fun e => awp_exit ⟨(), [(0, 1)], trivial, ?_⟩)
    · simp at e
      have a1 : (tb (F i) N)[i]? = some (f.c i) := by rw [tb_get e, hF]; simp
      have b1 := hf.ok i
      have b2 := pow_bits hc i
      have hiL : i * L ≤ n * L := Nat.mul_le_mul_right _ (by omega)
      have m1 := mulI b1 b2 (by omega) (by omega)
      have m2 := mulI3 (s := s) hl1 hl2 b2 (by omega)
      rw [← hcd, ← Int.pow_succ] at m2
      have hsc := setCells_ro (tb (F i) N) i (f.c i * c ^ i)
      rw [hFs] at hsc
      refine awp_seq_k fun K2 hK2 => ?_
      refine awp_block ?_
      refine awp_sx prog_ok hP hnt [] [] [] [3, 5, 6, 7, 12, 13] (by kernel_rfl) (G := fun K => K (St.mk [(3, V.ptr 0 0), (5, V.own 1 0 N 2), (6, V.ptr 2 0), (12, V.d (D.int IntKind.i64 (↑N : Int))), (13, V.d (D.int IntKind.i64 (↑i : Int))), (7, V.d (D.int IntKind.i64 (↑i : Int)))] [(0, some (Blk.mk [D.bool s, du l] true)), (1, some (Blk.mk (rc (ro (tb (F i) N))) true)), (2, some (Blk.mk [D.bool (decide (c ^ i < (0 : Int))), du (dig (c ^ i).natAbs)] true))] 6)) (fun K => by kernel_rfl) ?_
      refine awp_sx prog_ok hP hnt [] [.val (.agg (iz (f.c i * c ^ i)))] [some (iz (f.c i)), some (iz (c ^ i))] [3, 5, 6, 12, 13] (by kernel_rfl) (G := fun K => ((0 : Int) ≤ (↑i : Int) ∧ (↑i : Int) < (↑N : Int)) ∧ ((rc (ro (tb (F i) N)))[0 + (↑i : Int).toNat * 2]? = some (D.bool (decide (f.c i < (0 : Int)))) ∧ (rc (ro (tb (F i) N)))[0 + (↑i : Int).toNat * 2 + 1]? = some (du (dig (f.c i).natAbs))) ∧ ([D.bool (decide (c ^ i < (0 : Int))), du (dig (c ^ i).natAbs)][0]? = some (D.bool (decide (c ^ i < (0 : Int)))) ∧ [D.bool (decide (c ^ i < (0 : Int))), du (dig (c ^ i).natAbs)][1]? = some (du (dig (c ^ i).natAbs))) ∧ Fn Try.prog 123 [V.agg [D.bool (decide (f.c i < (0 : Int))), du (dig (f.c i).natAbs)], V.agg [D.bool (decide (c ^ i < (0 : Int))), du (dig (c ^ i).natAbs)]] [] (V.agg [D.bool (decide (f.c i * c ^ i < (0 : Int))), du (dig (f.c i * c ^ i).natAbs)]) [] ∧ ((0 : Int) ≤ (↑i : Int) ∧ (↑i : Int) < (↑N : Int)) ∧ 0 + (↑i : Int).toNat * 2 + (iz (f.c i * c ^ i)).length ≤ (rc (ro (tb (F i) N))).length ∧ K (St.mk [(3, V.ptr 0 0), (5, V.own 1 0 N 2), (6, V.ptr 2 0), (12, V.d (D.int IntKind.i64 (↑N : Int))), (13, V.d (D.int IntKind.i64 (↑i : Int)))] [(0, some (Blk.mk [D.bool s, du l] true)), (1, some (Blk.mk (setCells (rc (ro (tb (F i) N))) (0 + (↑i : Int).toNat * 2) (iz (f.c i * c ^ i))) true)), (2, some (Blk.mk [D.bool (decide (c ^ i < (0 : Int))), du (dig (c ^ i).natAbs)] true))] 16)) (fun K => by kernel_rfl) ?_
      refine ⟨⟨by omega, by omega⟩, rc_own (ro_get a1), ⟨rfl, rfl⟩, m1, ⟨by omega, by omega⟩, ?_, ?_⟩
      · rw [rc_len, ro_len, tb_len, Int.toNat_natCast, Nat.zero_add]; show i * 2 + 2 ≤ N * 2; omega
      rw [Int.toNat_natCast, Nat.zero_add, hsc]
      refine awp_x prog_ok hP hnt [] [.val (.agg (iz (c ^ (i + 1))))] [some (iz (c ^ i)), some (ic s l)] [3, 5, 6, 12, 13] (by kernel_rfl) (G := fun K => ([D.bool (decide (c ^ i < (0 : Int))), du (dig (c ^ i).natAbs)][0]? = some (D.bool (decide (c ^ i < (0 : Int)))) ∧ [D.bool (decide (c ^ i < (0 : Int))), du (dig (c ^ i).natAbs)][1]? = some (du (dig (c ^ i).natAbs))) ∧ ([D.bool s, du l][0]? = some (D.bool s) ∧ [D.bool s, du l][1]? = some (du l)) ∧ Fn Try.prog 123 [V.agg [D.bool (decide (c ^ i < (0 : Int))), du (dig (c ^ i).natAbs)], V.agg [D.bool s, du l]] [] (V.agg [D.bool (decide (c ^ (i + 1) < (0 : Int))), du (dig (c ^ (i + 1)).natAbs)]) [] ∧ 0 + (iz (c ^ (i + 1))).length ≤ [D.bool (decide (c ^ i < (0 : Int))), du (dig (c ^ i).natAbs)].length ∧ K (St.mk [(3, V.ptr 0 0), (5, V.own 1 0 N 2), (6, V.ptr 2 0), (12, V.d (D.int IntKind.i64 (↑N : Int))), (13, V.d (D.int IntKind.i64 (↑i : Int)))] [(0, some (Blk.mk [D.bool s, du l] true)), (1, some (Blk.mk (rc (ro (tb (F (i + 1)) N))) true)), (2, some (Blk.mk [D.bool (decide (c ^ (i + 1) < (0 : Int))), du (dig (c ^ (i + 1)).natAbs)] true))] 20)) (fun K => by kernel_rfl) ?_
      refine ⟨⟨rfl, rfl⟩, ⟨rfl, rfl⟩, m2, by simp [iz], hK2 _ ?_⟩
      refine awp_x prog_ok hP hnt [(28, .int .i64 (i + 1 : Nat))] [] [] [3, 5, 6, 12, 13] (by kernel_rfl) (G := fun K => IntKind.i64.wrap ((↑i : Int) + (1 : Int)) = (↑(i + 1) : Int) ∧ K (St.mk [(3, V.ptr 0 0), (5, V.own 1 0 N 2), (6, V.ptr 2 0), (12, V.d (D.int IntKind.i64 (↑N : Int))), (13, V.d (D.int IntKind.i64 (↑(i + 1) : Int)))] [(0, some (Blk.mk [D.bool s, du l] true)), (1, some (Blk.mk (rc (ro (tb (F (i + 1)) N))) true)), (2, some (Blk.mk [D.bool (decide (c ^ (i + 1) < (0 : Int))), du (dig (c ^ (i + 1)).natAbs)] true))] 22)) (fun K => by kernel_rfl) ?_
      refine ⟨by rw [w64] <;> omega, i + 1, [(0, 0), (1, 1), (2, 2)], ⟨by omega, by omega⟩, ?_⟩
      (constructor <;> simp [hl, envOk, memOk, conv, St.get, St.blk, ic, iz])
    · simp at e
      have : i = N := by omega
      subst this
      (constructor <;> simp [hl, envOk, memOk, conv, St.get, St.blk])
  intro _ _
  have ht := utrim_fn (ro (tb (F N) N)) (by simp; omega) (fun p hp => by
    rw [hFN] at hp
    simp only [ro, tb, List.mem_map] at hp
    obtain ⟨z, ⟨k, hk, rfl⟩, rfl⟩ := hp
    have := riz_bits (hsb k) (by omega)
    exact ⟨this.1, by omega⟩)
  rw [hFN, ro_tb, rtrim_mz, can_eq (f := strP f c) (fun _ => rfl) hss] at ht
  refine awp_sx prog_ok hP hnt [] [.val (.d (rp (cp (strP f c))))] [] [4] (by kernel_rfl) (G := fun K => Fn Try.prog 161 [V.d (D.lst N (List.take (N * 2) (List.drop 0 (rc (ro (tb (F N) N))))))] [] (V.d (rp (cp (strP f c)))) [] ∧ K (St.mk [(4, V.d (rp (cp (strP f c))))] [(0, some (Blk.mk (rc (ro (tb (F N) N))) false))] 4)) (fun K => by kernel_rfl) ?_
  refine ⟨?_, awp_ret ⟨.inl rfl, retD rfl⟩⟩
  rw [own_rp (by simp), hFN, ro_tb]
  exact ht

theorem reverseP {i : Nat} {ps : List RI} (hi : i ≤ 12) (hp : W i ps) : Fn Try.prog 57 [.d (rp ps)] [] (.d (rp (cp (revP (pol ps) (pol ps).sz)))) [] ∧ Lv i (revP (pol ps) (pol ps).sz) := by
  have h2 := lim2 hi
  have h4 := lim4 hi
  have hln := hp.len
  obtain ⟨f, hf⟩ : ∃ f, f = pol ps := ⟨_, rfl⟩
  rw [← hf]
  have hlv : Lv i f := hf ▸ hp.lv
  obtain ⟨N, hN⟩ : ∃ N, N = f.sz := ⟨_, rfl⟩
  rw [← hN]
  have hfs : N ≤ ps.length := by rw [hN, hf]; exact pol_sz ps
  have hrs : (revP f N).sz ≤ N := sz_le fun k hk => by rw [revP_c, if_neg (by omega)]
  have hrb : ∀ k, ((revP f N).c k).natAbs < 4294967296 ^ (40 * 4 ^ i) := fun k => by
    rw [revP_c]; split
    · exact hlv.ok _
    · exact Nat.pow_pos (by omega)
  refine And.symm ⟨⟨Nat.le_trans hrs (by rw [hN]; exact hlv.len), hrb⟩, ?_⟩
  have htr := trimW hi hp
  have htl : (rtrim ps).length = N := by rw [rtrim_lenp, ← hf, hN]
  have htg := fun k => rtrim_cp ps k
  rw [← hf, ← hN] at htg
  -- behind j steps: the upper j places are filled
  obtain ⟨F, hF⟩ : ∃ F : Nat → Nat → Int, F = fun j k => if N ≤ k + j then (revP f N).c k else 0 := ⟨_, rfl⟩
  have hF0 : mz (F 0) N = List.replicate N (riz 0) := by
    rw [mz_zero]; exact mz_ext fun k hk => by rw [hF]; simp only; rw [if_neg (by omega)]
  have hFN : mz (F N) N = mz (revP f N).c N := mz_ext fun k hk => by rw [hF]; simp only; rw [if_pos (by omega)]
  have hFs : ∀ j, j < N → (mz (F j) N).set (N - 1 - j) (riz (f.c j)) = mz (F (j + 1)) N := fun j hj => mz_set (by
      rw [hF]; simp only; rw [if_pos (by omega), revP_c, if_pos (by omega), show N - 1 - (N - 1 - j) = j by omega]) fun k hk hkN => by
    rw [hF]; simp only
    by_cases h : N ≤ k + j
    · rw [if_pos h, if_pos (by omega)]
    · rw [if_neg h, if_neg (by omega)]
  refine fn0 (nt := 30) (res := [.tmp 2]) Try.func57 rfl (by decide) rfl rfl rfl rfl ?_
  intro Cx hP hnt hl
  refine awp_sx prog_ok hP hnt [] [] [] [0] (by kernel_rfl) (G := fun K => K (St.mk [(0, V.d (rp ps))] [] 1)) (fun K => by kernel_rfl) ?_
  refine awp_sx prog_ok hP hnt [] [.val (.d (rp (rtrim ps)))] [] [0] (by kernel_rfl) (G := fun K => Fn Try.prog 161 [V.d (rp ps)] [] (V.d (rp (rtrim ps))) [] ∧ K (St.mk [(0, V.d (rp (rtrim ps)))] [] 4)) (fun K => by kernel_rfl) ?_
  refine ⟨htr, ?_⟩
  refine awp_sx prog_ok hP hnt [(9, .int .i64 N)] [] [] [0, 3] (by kernel_rfl) (G := fun K => (↑(rtrim ps).length : Int) = (↑N : Int) ∧ ((↑N : Int) = (↑N : Int) ∧ (0 : Int) ≤ (↑N : Int) ∧ (↑N : Int) * (↑32 : Int) ≤ (2 : Int) ^ 47) ∧ K (St.mk [(0, V.d (rp (rtrim ps))), (3, V.own 6 0 (↑N : Int).toNat 2)] [(6, some (Blk.mk (zeros (↑N : Int).toNat (TI.mk (Kind.struct [(0, 1), (1, 1)]) 2 32 [D.bool false, D.lst 0 []]).zero) true))] 8)) (fun K => by kernel_rfl) ?_
  refine ⟨by rw [htl], by omega, ?_⟩
  refine awp_cut (ι := Unit) (fun _ => ⟨[(3, .own 0 0 N 2)], [(0, some ⟨rc (mz (F N) N), true⟩)], 1⟩) (fun _ => True) ?_ ?_
  · refine awp_sx prog_ok hP hnt [] [] [] [0, 3, 11, 12, 13] (by kernel_rfl) (G := fun K => K (St.mk [(0, V.d (rp (rtrim ps))), (3, V.own 6 0 (↑N : Int).toNat 2), (11, V.d (rp (rtrim ps))), (12, V.d (D.int IntKind.i64 (↑(rtrim ps).length : Int))), (13, V.d (D.int IntKind.i64 (0 : Int)))] [(6, some (Blk.mk (zeros (↑N : Int).toNat (TI.mk (Kind.struct [(0, 1), (1, 1)]) 2 32 [D.bool false, D.lst 0 []]).zero) true))] 11)) (fun K => by kernel_rfl) ?_
    refine awp_block ?_
    refine awp_loop (ι := Nat) (fun j => ⟨[(0, .d (rp (rtrim ps))), (3, .own 0 0 N 2), (11, .d (rp (rtrim ps))), (12, .d (.int .i64 N)), (13, .d (.int .i64 j))], [(0, some ⟨rc (mz (F j) N), true⟩)], 1⟩)
      (fun j => j ≤ N) (fun j => N - j) 0 [(0, 6)] (by simp) ?_ ?_
    · rw [Int.toNat_natCast]
      (constructor <;> simp [hl, envOk, memOk, conv, St.get, St.blk, zeros_rc, hF0, htl])
    intro j hj
    refine awp_sx prog_ok hP hnt [] [] [] [0, 3, 11, 12, 13, 14] (by kernel_rfl) (G := fun K => K (St.mk [(0, V.d (rp (rtrim ps))), (3, V.own 0 0 N 2), (11, V.d (rp (rtrim ps))), (12, V.d (D.int IntKind.i64 (↑N : Int))), (13, V.d (D.int IntKind.i64 (↑j : Int))), (14, V.d (D.bool (decide ((↑j : Int) < (↑N : Int)))))] [(0, some (Blk.mk (rc (mz (F j) N)) true))] 2)) (fun K => by kernel_rfl) ?_
    refine awp_seq_k fun K1 hK1 => ?_
    refine awp_cond rfl (fun e => awp_skip (hK1 _ ?_)) (fun e => awp_exit ⟨(), [(0, 0)], trivial, ?_⟩)
    · simp at e
      obtain ⟨p, hp1⟩ := get_ex (l := ps) (i := j) (by omega)
      have hp2 : (rtrim ps)[j]? = some p := by rw [htg, if_pos e, hp1]
      have hpo := hp.ok p (List.mem_of_getElem? hp1)
      have hfx : ival p.1 p.2 = f.c j := by rw [hf, pol_c, co_some hp1]; rfl
      have h3 := inorm_fn p.1 p.2 (by have := hpo.2; omega) hpo.1
      rw [hfx] at h3
      have hsc := setCells_rc (mz (F j) N) (N - 1 - j) (riz (f.c j))
      rw [hFs j e, ic_riz] at hsc
      refine awp_seq_k fun K2 hK2 => ?_
      refine awp_block ?_
      refine awp_sx prog_ok hP hnt [] [] [some [.bool p.1, du p.2]] [0, 3, 4, 5, 11, 12, 13] (by kernel_rfl) (G := fun K => ((0 : Int) ≤ (↑j : Int) ∧ (↑j : Int) < (↑(rtrim ps).length : Int) ∧ ((↑j : Int).toNat + 1) * 2 ≤ (rc (rtrim ps)).length) ∧ ((List.drop ((↑j : Int).toNat * 2) (rc (rtrim ps)))[0]? = some (D.bool p.fst) ∧ (List.drop ((↑j : Int).toNat * 2) (rc (rtrim ps)))[1]? = some (du p.snd)) ∧ 0 + [D.bool p.fst, du p.snd].length ≤ (TI.mk (Kind.struct [(0, 1), (1, 1)]) 2 32 [D.bool false, D.lst 0 []]).zero.length ∧ K (St.mk [(0, V.d (rp (rtrim ps))), (3, V.own 0 0 N 2), (11, V.d (rp (rtrim ps))), (12, V.d (D.int IntKind.i64 (↑N : Int))), (13, V.d (D.int IntKind.i64 (↑j : Int))), (5, V.ptr 5 0), (4, V.d (D.int IntKind.i64 (↑j : Int)))] [(0, some (Blk.mk (rc (mz (F j) N)) true)), (5, some (Blk.mk [D.bool p.fst, du p.snd] true))] 8)) (fun K => by kernel_rfl) ?_
      refine ⟨⟨by omega, by omega, by rw [rc_len, htl]; omega⟩, by rw [rc_drop0 hp2]; exact ⟨rfl, rfl⟩, by simp, ?_⟩
      refine awp_x prog_ok hP hnt [(21, .int .i64 (N - 1 : Int)), (23, .int .i64 (N - 1 - j : Nat))] [.val (.agg (iz (f.c j)))] [some [.bool p.1, du p.2]] [0, 3, 11, 12, 13] (by kernel_rfl) (G := fun K => IntKind.i64.wrap ((↑(rtrim ps).length : Int) - (1 : Int)) = (↑N : Int) - (1 : Int) ∧ IntKind.i64.wrap ((↑N : Int) - (1 : Int) - (↑j : Int)) = (↑(N - 1 - j) : Int) ∧ ([D.bool p.fst, du p.snd][0]? = some (D.bool p.fst) ∧ [D.bool p.fst, du p.snd][1]? = some (du p.snd)) ∧ Fn Try.prog 165 [V.agg [D.bool p.fst, du p.snd]] [] (V.agg [D.bool (decide (f.c j < (0 : Int))), du (dig (f.c j).natAbs)]) [] ∧ ((0 : Int) ≤ (↑(N - 1 - j) : Int) ∧ (↑(N - 1 - j) : Int) < (↑N : Int)) ∧ 0 + (↑(N - 1 - j) : Int).toNat * 2 + (iz (f.c j)).length ≤ (rc (mz (F j) N)).length ∧ K (St.mk [(0, V.d (rp (rtrim ps))), (3, V.own 0 0 N 2), (11, V.d (rp (rtrim ps))), (12, V.d (D.int IntKind.i64 (↑N : Int))), (13, V.d (D.int IntKind.i64 (↑j : Int)))] [(0, some (Blk.mk (setCells (rc (mz (F j) N)) (0 + (↑(N - 1 - j) : Int).toNat * 2) (iz (f.c j))) true)), (5, some (Blk.mk [D.bool p.fst, du p.snd] true))] 18)) (fun K => by kernel_rfl) ?_
      refine ⟨by rw [htl, w64] <;> omega, by rw [w64] <;> omega, ⟨rfl, rfl⟩, h3, ⟨by omega, by omega⟩, ?_, hK2 _ ?_⟩
      · rw [rc_len, mz_len, Int.toNat_natCast, Nat.zero_add]; show (N - 1 - j) * 2 + 2 ≤ N * 2; omega
      refine awp_x prog_ok hP hnt [(27, .int .i64 (j + 1 : Nat))] [] [] [0, 3, 11, 12, 13] (by kernel_rfl) (G := fun K => IntKind.i64.wrap ((↑j : Int) + (1 : Int)) = (↑(j + 1) : Int) ∧ K (St.mk [(0, V.d (rp (rtrim ps))), (3, V.own 0 0 N 2), (11, V.d (rp (rtrim ps))), (12, V.d (D.int IntKind.i64 (↑N : Int))), (13, V.d (D.int IntKind.i64 (↑(j + 1) : Int)))] [(0, some (Blk.mk (setCells (rc (mz (F j) N)) (0 + (↑(N - 1 - j) : Int).toNat * 2) (iz (f.c j))) true)), (5, some (Blk.mk [D.bool p.fst, du p.snd] true))] 20)) (fun K => by kernel_rfl) ?_
      refine ⟨by rw [w64] <;> omega, j + 1, [(0, 0)], ⟨by omega, by omega⟩, ?_⟩
      rw [Int.toNat_natCast, Nat.zero_add, hsc]
      (constructor <;> simp [hl, envOk, memOk, conv, St.get, St.blk])
    · simp at e
      have : j = N := by omega
      subst this
      (constructor <;> simp [hl, envOk, memOk, conv, St.get, St.blk])
  intro _ _
  have ht := utrim_fn (mz (F N) N) (by simp; omega) (by rw [hFN]; exact pok_mono (by omega) (mz_ok hrb))
  rw [hFN, rtrim_mz, can_eq (f := revP f N) (fun _ => rfl) hrs] at ht
  refine awp_sx prog_ok hP hnt [] [.val (.d (rp (cp (revP f N))))] [] [2] (by kernel_rfl) (G := fun K => Fn Try.prog 161 [V.d (D.lst N (List.take (N * 2) (List.drop 0 (rc (mz (F N) N)))))] [] (V.d (rp (cp (revP f N)))) [] ∧ K (St.mk [(2, V.d (rp (cp (revP f N))))] [(0, some (Blk.mk (rc (mz (F N) N)) false))] 4)) (fun K => by kernel_rfl) ?_
  refine ⟨?_, awp_ret ⟨.inl rfl, retD rfl⟩⟩
  rw [own_rp (by simp), hFN]
  exact ht
end Go.Abs
