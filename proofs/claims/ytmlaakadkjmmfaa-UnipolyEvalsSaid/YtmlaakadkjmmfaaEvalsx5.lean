import Derived.WalkKit
import Derived.Orders
import Derived.Below
import Derived.Laws.AppendOwn
import Derived.Calls
import Derived.OpenShut
import Derived.ChangeArms
import Derived.ChangeShapes
import Derived.WideShapes
import Derived.KernelRfl
import Derived.JoinedOf
import Derived.Scope
import Derived.ProofKit
import Derived.ShutString
import Derived.ChangeOld
import Derived.SizedLaws
import Derived.Test.YtmlaakadkjmmfaaProg
import Derived.Test.YtmlaakadkjmmfaaEvalsx0
import Derived.Test.YtmlaakadkjmmfaaEvalsx1
import Derived.Test.YtmlaakadkjmmfaaEvalsx2
import Derived.Test.YtmlaakadkjmmfaaEvalsx3
import Derived.Test.YtmlaakadkjmmfaaEvalsx4
/- Texts that the proof of UnipolyEvals leans on: what is told of the functions it reaches. -/
set_option linter.unusedVariables false
set_option linter.unusedSimpArgs false
namespace Go.Abs
open Go Go.Proofs
set_option maxRecDepth 100000

theorem wordsO_fn (l : List Nat) (hl1 : Db 2 l) (hn : l.length ≤ 2 ^ 39) : ∃ o, Db 32768 o ∧ vb 32768 o = vb 2 l ∧ o.length = (l.length + 14) / 15 ∧ ∀ b, Fn Try.prog 241 [.d (ib l)] [] (.own b 0 o.length 1) [(b, ⟨ibs o, true⟩)] := by
  obtain ⟨W, hW⟩ : ∃ W, W = (l.length + 14) / 15 := ⟨_, rfl⟩
  -- the words behind i bits
  obtain ⟨O, hO0, hO⟩ : ∃ O : Nat → List Nat, O 0 = List.replicate W 0 ∧ ∀ i, O (i + 1) = (O i).set (i / 15) ((O i).getD (i / 15) 0 + l.getD i 0 * 2 ^ (i % 15)) :=
    ⟨fun i => Nat.rec (List.replicate W 0) (fun i o => o.set (i / 15) (o.getD (i / 15) 0 + l.getD i 0 * 2 ^ (i % 15))) i, rfl, fun _ => rfl⟩
  have hOl : ∀ i, (O i).length = W := fun i => by
    induction i with
    | zero => rw [hO0]; simp
    | succ i ih => rw [hO, List.length_set, ih]
  have key : ∀ i, i ≤ l.length → Db 32768 (O i) ∧ vb 32768 (O i) = vb 2 (l.take i) := fun i => by
    induction i with
    | zero => intro _; rw [hO0]; exact ⟨fun d hd => by rw [List.mem_replicate] at hd; omega, by rw [vb_zeros]; simp [vb]⟩
    | succ i ih =>
      intro hi
      obtain ⟨h1, h2⟩ := ih (by omega)
      have hq : i / 15 < (O i).length := by rw [hOl]; omega
      have hlt : vb 2 (l.take i) < 2 ^ i := by
        have := vb_lt (b := 2) (by omega) (db_take hl1 i)
        rwa [List.length_take, Nat.min_eq_left (by omega)] at this
      have hd := vb_digit_le (b := 32768) (O i) (i / 15)
      rw [h2] at hd
      have hsp := pow_split 32768 15 i rfl
      have hdig : (O i).getD (i / 15) 0 < 2 ^ (i % 15) := by
        apply Nat.lt_of_mul_lt_mul_left (a := 32768 ^ (i / 15))
        rw [hsp]; omega
      have hx := db_getD (b := 2) (by omega) hl1 i
      have hput := vb_put (b := 32768) ((O i).getD (i / 15) 0 + l.getD i 0 * 2 ^ (i % 15)) hq
      rw [hO]
      refine ⟨db_set h1 ?_, ?_⟩
      · have h3 : 2 ^ (i % 15) ≤ 2 ^ 14 := Nat.pow_le_pow_right (by omega) (by omega)
        have h4 : l.getD i 0 * 2 ^ (i % 15) ≤ 1 * 2 ^ (i % 15) := Nat.mul_le_mul_right _ (by omega)
        omega
      · rw [vb_take_D, ← h2, ← hsp]
        generalize 32768 ^ (i / 15) = A at *
        generalize 2 ^ (i % 15) = B at *
        grind
  refine ⟨O l.length, (key _ (Nat.le_refl _)).1, by rw [(key _ (Nat.le_refl _)).2, List.take_length], by rw [hOl, hW], ?_⟩
  intro b
  refine Fn.out_ren ?_ b
  refine fn0o (nt := 32) (res := [.tmp 2]) Try.func241 rfl (by decide) rfl rfl rfl rfl ?_
  intro Cx hP hnt hl
  refine awp_sx prog_ok hP hnt [] [] [] [0] (by kernel_rfl) (G := fun K => K (St.mk [(0, V.d (ib l))] [] 1)) (fun K => by kernel_rfl) ?_
  refine awp_sx prog_ok hP hnt [(7, .int .i64 (l.length + 14 : Nat)), (8, .int .i64 W)] [] [] [0, 3] (by kernel_rfl) (G := fun K => IntKind.i64.wrap ((↑l.length : Int) + (14 : Int)) = (↑(l.length + 14) : Int) ∧ (15 : Int) ≠ (0 : Int) ∧ IntKind.i64.wrap ((↑(l.length + 14) : Int).tdiv (15 : Int)) = (↑W : Int) ∧ ((↑W : Int) = (↑W : Int) ∧ (0 : Int) ≤ (↑W : Int) ∧ (↑W : Int) * (↑8 : Int) ≤ (2 : Int) ^ 47) ∧ K (St.mk [(0, V.d (ib l)), (3, V.own 5 0 (↑W : Int).toNat 1)] [(5, some (Blk.mk (zeros (↑W : Int).toNat (TI.mk (Kind.int IntKind.i64) 1 8 [D.int IntKind.i64 (0 : Int)]).zero) true))] 7)) (fun K => by kernel_rfl) ?_
  refine ⟨by rw [w64] <;> omega, by decide, by rw [hW]; exact tdivN (l.length + 14) 15 (by omega), by omega, ?_⟩
  refine awp_cut (ι := Unit) (fun _ => ⟨[(3, .own 0 0 W 1)], [(0, some ⟨ibs (O l.length), true⟩)], 1⟩) (fun _ => True) ?_ ?_
  · refine awp_sx prog_ok hP hnt [] [] [] [0, 3, 4] (by kernel_rfl) (G := fun K => K (St.mk [(0, V.d (ib l)), (3, V.own 5 0 (↑W : Int).toNat 1), (4, V.d (D.int IntKind.i64 (0 : Int)))] [(5, some (Blk.mk (zeros (↑W : Int).toNat (TI.mk (Kind.int IntKind.i64) 1 8 [D.int IntKind.i64 (0 : Int)]).zero) true))] 8)) (fun K => by kernel_rfl) ?_
    refine awp_block ?_
    refine awp_loop (ι := Nat) (fun i => ⟨[(0, .d (ib l)), (3, .own 0 0 W 1), (4, .d (.int .i64 i))], [(0, some ⟨ibs (O i), true⟩)], 1⟩)
      (fun i => i ≤ l.length) (fun i => l.length - i) 0 [(0, 5)] (by simp) ?_ ?_
    · (constructor <;> simp [hl, envOk, memOk, conv, St.get, St.blk, zeros_ib, hO0])
    intro i hi
    refine awp_seq_k fun K hK => ?_
    refine awp_sx prog_ok hP hnt [] [] [] [0, 3, 4, 13] (by kernel_rfl) (G := fun K => K (St.mk [(0, V.d (ib l)), (3, V.own 0 0 W 1), (4, V.d (D.int IntKind.i64 (↑i : Int))), (13, V.d (D.bool (decide ((↑i : Int) < (↑l.length : Int)))))] [(0, some (Blk.mk (ibs (O i)) true))] 5)) (fun K => by kernel_rfl) ?_
    refine awp_cond rfl (fun e => awp_skip (hK _ ?_)) (fun e => awp_exit ⟨(), [(0, 0)], trivial, ?_⟩)
    · simp at e
      refine awp_seq_k fun K2 hK2 => ?_
      refine awp_block ?_
      obtain ⟨h1, h2⟩ := key i hi
      have hq : i / 15 < W := by omega
      obtain ⟨x, hx⟩ := get_ex (l := l) (i := i) e
      have hxd : l.getD i 0 = x := by rw [List.getD_eq_getElem?_getD, hx]; rfl
      have hx2 : x < 2 := db_get hl1 hx
      obtain ⟨y, hy⟩ := get_ex (l := O i) (i := i / 15) (by rw [hOl]; exact hq)
      have hyd : (O i).getD (i / 15) 0 = y := by rw [List.getD_eq_getElem?_getD, hy]; rfl
      have hy2 : y < 32768 := db_get h1 hy
      have hOi := hO i
      rw [hxd, hyd] at hOi
      have h3 : 2 ^ (i % 15) ≤ 2 ^ 14 := Nat.pow_le_pow_right (by omega) (by omega)
      have h4 : x * 2 ^ (i % 15) ≤ 1 * 2 ^ (i % 15) := Nat.mul_le_mul_right _ (by omega)
      refine awp_x prog_ok hP hnt [(18, .int .i64 (i / 15 : Nat)), (26, .int .i64 (i % 15 : Nat)), (27, .int .u64 (i % 15 : Nat)), (28, .int .i64 (x * 2 ^ (i % 15) : Nat)), (29, .int .i64 (y + x * 2 ^ (i % 15) : Nat))] [] [some [.int .i64 y], some [.int .i64 x]] [0, 3, 4] (by kernel_rfl) (G := fun K => (15 : Int) ≠ (0 : Int) ∧ IntKind.i64.wrap ((↑i : Int).tdiv (15 : Int)) = (↑(i / 15) : Int) ∧ ((0 : Int) ≤ (↑(i / 15) : Int) ∧ (↑(i / 15) : Int) < (↑W : Int)) ∧ (ibs (O i))[0 + (↑(i / 15) : Int).toNat * 1]? = some (D.int IntKind.i64 (↑y : Int)) ∧ ((0 : Int) ≤ (↑i : Int) ∧ (↑i : Int) < (↑l.length : Int) ∧ ((↑i : Int).toNat + 1) * 1 ≤ (ibs l).length) ∧ (List.drop ((↑i : Int).toNat * 1) (ibs l))[0]? = some (D.int IntKind.i64 (↑x : Int)) ∧ (15 : Int) ≠ (0 : Int) ∧ (↑i : Int).tmod (15 : Int) = (↑(i % 15) : Int) ∧ IntKind.u64.wrap (↑(i % 15) : Int) = (↑(i % 15) : Int) ∧ (0 : Int) ≤ (↑(i % 15) : Int) ∧ IntKind.i64.wrap ((↑x : Int) * (2 : Int) ^ min (↑(i % 15) : Int).toNat IntKind.i64.bits) = (↑(x * 2 ^ (i % 15)) : Int) ∧ IntKind.i64.wrap ((↑y : Int) + (↑(x * 2 ^ (i % 15)) : Int)) = (↑(y + x * 2 ^ (i % 15)) : Int) ∧ ((0 : Int) ≤ (↑(i / 15) : Int) ∧ (↑(i / 15) : Int) < (↑W : Int)) ∧ 0 + (↑(i / 15) : Int).toNat * 1 + [D.int IntKind.i64 (↑(y + x * 2 ^ (i % 15)) : Int)].length ≤ (ibs (O i)).length ∧ K (St.mk [(0, V.d (ib l)), (3, V.own 0 0 W 1), (4, V.d (D.int IntKind.i64 (↑i : Int)))] [(0, some (Blk.mk (setCells (ibs (O i)) (0 + (↑(i / 15) : Int).toNat * 1) [D.int IntKind.i64 (↑(y + x * 2 ^ (i % 15)) : Int)]) true))] 21)) (fun K => by kernel_rfl) ?_
      refine ⟨by decide, tdivN i 15 (by omega), ⟨by omega, by omega⟩, by rw [Int.toNat_natCast, Nat.zero_add, Nat.mul_one]; exact ibs_some hy, ⟨by omega, by omega, by simp; omega⟩, drop0 (ibs_some hx), by decide, tmodN i 15, u64nat (by omega), by omega,
        by rw [shlN x (i % 15) (w := IntKind.i64.bits) (by show i % 15 ≤ 64; omega)]; exact i64nat (by omega), by rw [← Int.natCast_add]; exact i64nat (by omega), ⟨by omega, by omega⟩, by rw [Int.toNat_natCast, ibs_len, hOl]; show 0 + i / 15 * 1 + 1 ≤ W; omega, hK2 _ ?_⟩
      have hsc := setCells_ib (O i) (i / 15) (y + x * 2 ^ (i % 15))
      rw [← hOi] at hsc
      refine awp_x prog_ok hP hnt [(15, .int .i64 (i + 1 : Nat))] [] [] [0, 3, 4] (by kernel_rfl) (G := fun K => IntKind.i64.wrap ((↑i : Int) + (1 : Int)) = (↑(i + 1) : Int) ∧ K (St.mk [(0, V.d (ib l)), (3, V.own 0 0 W 1), (4, V.d (D.int IntKind.i64 (↑(i + 1) : Int)))] [(0, some (Blk.mk (setCells (ibs (O i)) (0 + (↑(i / 15) : Int).toNat * 1) [D.int IntKind.i64 (↑(y + x * 2 ^ (i % 15)) : Int)]) true))] 24)) (fun K => by kernel_rfl) ?_
      refine ⟨by rw [w64] <;> omega, i + 1, [(0, 0)], ⟨by omega, by omega⟩, ?_⟩
      rw [Int.toNat_natCast, Nat.mul_one, Nat.zero_add, hsc]
      (constructor <;> simp [hl, envOk, memOk, conv, St.get, St.blk])
    · simp at e
      have : i = l.length := by omega
      subst this
      (constructor <;> simp [hl, envOk, memOk, conv, St.get, St.blk])
  intro _ _
  refine awp_sx prog_ok hP hnt [] [] [] [2] (by kernel_rfl) (G := fun K => K (St.mk [(2, V.own 0 0 W 1)] [(0, some (Blk.mk (ibs (O l.length)) true))] 3)) (fun K => by kernel_rfl) ?_
  rw [hOl]
  exact awp_ret ⟨.inl rfl, .inl ⟨rfl, rfl, trivial⟩⟩

theorem bor_step {b : Nat} {o O v : List Nat} {k c s p q d : Nat} (ho : k < o.length) (hp : O[k]? = some p) (hq : v[k]? = some q) (e : s + q + c = p + b * d)
    (h : vb b (o.take k) + vb b (v.take k) = vb b (O.take k) + b ^ k * c) :
    vb b ((o.set k s).take (k + 1)) + vb b (v.take (k + 1)) = vb b (O.take (k + 1)) + b ^ (k + 1) * d := by
  rw [vb_set ho, vb_take_succ hp, vb_take_succ hq, Nat.pow_succ]
  generalize b ^ k = B at *
  have : B * (s + q + c) = B * (p + b * d) := by rw [e]
  grind
theorem get_of_drop {o O : List Nat} {n : Nat} (h : o.drop n = O.drop n) : o[n]? = O[n]? := by
  have := congrArg (fun l => l[0]?) h
  simpa using this
theorem drop_set_succ {o O : List Nat} {n s : Nat} (h : o.drop n = O.drop n) : (o.set n s).drop (n + 1) = O.drop (n + 1) := by
  rw [List.drop_set_of_lt (by omega)]
  have := congrArg (List.drop 1) h
  rwa [List.drop_drop, List.drop_drop] at this

set_option maxHeartbeats 1000000 in
/-- quotient and remainder, bit by bit -/
theorem bdivmod_fn (l m : List Nat) (hl1 : Db 2 l) (hm1 : Db 2 m) (hln : l.length ≤ 2 ^ 35) (hmn : m.length ≤ 2 ^ 35) (h0 : vb 2 m ≠ 0) :
    Fn Try.prog 237 [.d (ib l), .d (ib m)] [] (.tup [.d (ib (db 2 (vb 2 l / vb 2 m))), .d (ib (db 2 (vb 2 l % vb 2 m)))]) [] := by
  obtain ⟨o, ho1, ho2, ho3, ho4⟩ := wordsO_fn m hm1 (by omega)
  obtain ⟨A, hA⟩ : ∃ A, A = vb 2 l := ⟨_, rfl⟩
  obtain ⟨B, hB⟩ : ∃ B, B = vb 2 m := ⟨_, rfl⟩
  rw [← hB] at ho2 h0
  rw [← hA, ← hB]
  obtain ⟨W, hW⟩ : ∃ W, W = o.length := ⟨_, rfl⟩
  have hWn : W ≤ 2 ^ 35 := by omega
  obtain ⟨D, hD⟩ : ∃ D, D = o ++ [0] := ⟨_, rfl⟩
  have hDl : D.length = W + 1 := by rw [hD]; simp [hW]
  have hDd : Db 32768 D := fun d hd => by
    rw [hD, List.mem_append] at hd
    rcases hd with hd | hd
    · exact ho1 d hd
    · simp at hd; omega
  have hDv : vb 32768 D = B := by rw [hD, vb_append, ho2]; simp [vb]
  have hBW : B < 32768 ^ W := by have := vb_lt (b := 32768) (by omega) ho1; rwa [ho2, ← hW] at this
  have hB2 : 2 * B < 32768 ^ (W + 1) := by rw [Nat.pow_succ]; omega
  obtain ⟨N, hN⟩ : ∃ N, N = l.length := ⟨_, rfl⟩
  obtain ⟨Q, hQ⟩ : ∃ Q : Nat → List Nat, ∀ j, Q j = tb (fun k => if N - j ≤ k then A / 2 ^ k / B % 2 else 0) N := ⟨fun j => tb (fun k => if N - j ≤ k then A / 2 ^ k / B % 2 else 0) N, fun _ => rfl⟩
  have hQl : ∀ j, (Q j).length = N := fun j => by rw [hQ]; simp
  refine fn0 (nt := 118) (res := [.tmp 4, .tmp 5]) Try.func237 rfl (by decide) rfl rfl rfl rfl ?_
  intro Cx hP hnt hl
  refine awp_sx prog_ok hP hnt [] [] [] [0, 1] (by kernel_rfl) (G := fun K => K (St.mk [(0, V.d (ib l)), (1, V.d (ib m))] [] 2)) (fun K => by kernel_rfl) ?_
  refine awp_sx prog_ok hP hnt [] [] [] [0, 1, 6] (by kernel_rfl) (G := fun K => ((↑l.length : Int) = (↑l.length : Int) ∧ (0 : Int) ≤ (↑l.length : Int) ∧ (↑l.length : Int) * (↑8 : Int) ≤ (2 : Int) ^ 47) ∧ K (St.mk [(0, V.d (ib l)), (1, V.d (ib m)), (6, V.own 4 0 (↑l.length : Int).toNat 1)] [(4, some (Blk.mk (zeros (↑l.length : Int).toNat (TI.mk (Kind.int IntKind.i64) 1 8 [Abs.D.int IntKind.i64 (0 : Int)]).zero) true))] 6)) (fun K => by kernel_rfl) ?_
  refine ⟨by omega, ?_⟩
  refine awp_sx prog_ok hP hnt [] [.own W 1 (ibs o)] [] [0, 6, 7] (by kernel_rfl) (G := fun K => Fn Try.prog 241 [V.d (ib m)] [] (V.own 7 0 W 1) [(7, Blk.mk (ibs o) true)] ∧ K (St.mk [(0, V.d (ib l)), (6, V.own 4 0 (↑l.length : Int).toNat 1), (7, V.own 7 0 W 1)] [(4, some (Blk.mk (zeros (↑l.length : Int).toNat (TI.mk (Kind.int IntKind.i64) 1 8 [Abs.D.int IntKind.i64 (0 : Int)]).zero) true)), (7, some (Blk.mk (ibs o) true))] 9)) (fun K => by kernel_rfl) ?_
  refine ⟨by have := ho4; rw [← hW] at this; exact this _, ?_⟩
  refine awp_sx prog_ok hP hnt [(25, .int .i64 (W + 1 : Nat))] [] [] [0, 6, 7, 8] (by kernel_rfl) (G := fun K => IntKind.i64.wrap ((↑W : Int) + (1 : Int)) = (↑(W + 1) : Int) ∧ K (St.mk [(0, V.d (ib l)), (6, V.own 4 0 (↑l.length : Int).toNat 1), (7, V.own 7 0 W 1), (8, V.d (Abs.D.int IntKind.i64 (↑(W + 1) : Int)))] [(4, some (Blk.mk (zeros (↑l.length : Int).toNat (TI.mk (Kind.int IntKind.i64) 1 8 [Abs.D.int IntKind.i64 (0 : Int)]).zero) true)), (7, some (Blk.mk (ibs o) true))] 13)) (fun K => by kernel_rfl) ?_
  refine ⟨by rw [w64] <;> omega, ?_⟩
  refine awp_sx prog_ok hP hnt [] [] [] [0, 6, 7, 8, 9] (by kernel_rfl) (G := fun K => ((↑(W + 1) : Int) = (↑(W + 1) : Int) ∧ (0 : Int) ≤ (↑(W + 1) : Int) ∧ (↑(W + 1) : Int) * (↑8 : Int) ≤ (2 : Int) ^ 47) ∧ K (St.mk [(0, V.d (ib l)), (6, V.own 4 0 (↑l.length : Int).toNat 1), (7, V.own 7 0 W 1), (8, V.d (Abs.D.int IntKind.i64 (↑(W + 1) : Int))), (9, V.own 14 0 (↑(W + 1) : Int).toNat 1)] [(4, some (Blk.mk (zeros (↑l.length : Int).toNat (TI.mk (Kind.int IntKind.i64) 1 8 [Abs.D.int IntKind.i64 (0 : Int)]).zero) true)), (7, some (Blk.mk (ibs o) true)), (14, some (Blk.mk (zeros (↑(W + 1) : Int).toNat (TI.mk (Kind.int IntKind.i64) 1 8 [Abs.D.int IntKind.i64 (0 : Int)]).zero) true))] 16)) (fun K => by kernel_rfl) ?_
  refine ⟨by omega, ?_⟩
  refine awp_sx prog_ok hP hnt [] [] [] [0, 6, 7, 8, 9] (by kernel_rfl) (G := fun K => 1 = 1 ∧ ((ibs o).length = W * 1 ∧ (W + 1) * 8 ≤ 2 ^ 47) ∧ K (St.mk [(0, V.d (ib l)), (6, V.own 4 0 (↑l.length : Int).toNat 1), (7, V.own 18 0 (W + 1) 1), (8, V.d (Abs.D.int IntKind.i64 (↑(W + 1) : Int))), (9, V.own 14 0 (↑(W + 1) : Int).toNat 1)] [(4, some (Blk.mk (zeros (↑l.length : Int).toNat (TI.mk (Kind.int IntKind.i64) 1 8 [Abs.D.int IntKind.i64 (0 : Int)]).zero) true)), (7, none), (14, some (Blk.mk (zeros (↑(W + 1) : Int).toNat (TI.mk (Kind.int IntKind.i64) 1 8 [Abs.D.int IntKind.i64 (0 : Int)]).zero) true)), (18, some (Blk.mk (ibs o ++ setCells (zeros 1 (TI.mk (Kind.int IntKind.i64) 1 8 [Abs.D.int IntKind.i64 (0 : Int)]).zero) 0 [Abs.D.int IntKind.i64 (0 : Int)]) true))] 20)) (fun K => by kernel_rfl) ?_
  refine ⟨rfl, ⟨by rw [ibs_len, hW, Nat.mul_one], by omega⟩, ?_⟩
  have hcD : ibs o ++ setCells (zeros 1 [Abs.D.int IntKind.i64 0]) 0 [Abs.D.int IntKind.i64 0] = ibs D := by rw [hD, ← ibs_app]; rfl
  have hA2 : A < 2 ^ N := by rw [hA, hN]; exact vb_lt (by omega) hl1
  have hB0 : 0 < B := by omega
  have hbit : ∀ i, i < N → l.getD i 0 = A / 2 ^ i % 2 := fun i hi => by rw [hA, vb_digit (by omega) i hl1]
  have hQ0 : Q 0 = List.replicate N 0 := by
    rw [hQ, tb_const]; exact tb_ext fun k hk => by rw [if_neg (by omega)]
  have hQs : ∀ j, j < N → Q (j + 1) = if A / 2 ^ (N - 1 - j) / B % 2 = 1 then (Q j).set (N - 1 - j) 1 else Q j := fun j hj => by
    split
    · rename_i h
      rw [hQ, hQ]
      refine (tb_set (j := N - 1 - j) ?_ fun k h1 h2 => ?_).symm
      · rw [if_pos (by omega), h]
      · by_cases h3 : N - j ≤ k
        · rw [if_pos h3, if_pos (by omega)]
        · rw [if_neg h3, if_neg (by omega)]
    · rename_i h
      rw [hQ, hQ]
      refine tb_ext fun k hk => ?_
      by_cases h3 : N - j ≤ k
      · rw [if_pos (by omega), if_pos h3]
      · rw [if_neg h3]
        split
        · rw [show k = N - 1 - j by omega]
          have := Nat.mod_lt (A / 2 ^ (N - 1 - j) / B) (show 2 > 0 by omega)
          omega
        · rfl
  have hQe : vb 2 (Q N) = A / B := by
    have h1 := vb_of_digits (b := 2) (by omega) (N := A / B) (l := Q N) fun i x hx => by
      have hi : i < N := by have := (List.getElem?_eq_some_iff.1 hx).1; rwa [hQl] at this
      rw [hQ, tb_get hi, if_pos (by omega)] at hx
      rw [← Option.some.inj hx, Nat.div_div_eq_div_mul, Nat.div_div_eq_div_mul, Nat.mul_comm]
    rw [h1, hQl]
    exact Nat.mod_eq_of_lt (Nat.lt_of_le_of_lt (Nat.div_le_self _ _) hA2)
  have hQd : Db 2 (Q N) := fun d hd => by
    rw [hQ] at hd
    simp only [tb, List.mem_map] at hd
    obtain ⟨k, _, rfl⟩ := hd
    split
    · exact Nat.mod_lt _ (by omega)
    · omega
  refine awp_cut (ι := List Nat) (fun r => ⟨[(6, .own 0 0 N 1), (9, .own 1 0 (W + 1) 1)], [(0, some ⟨ibs (Q N), true⟩), (1, some ⟨ibs r, true⟩)], 2⟩) (fun r => Db 32768 r ∧ r.length = W + 1 ∧ vb 32768 r = A % B) ?_ ?_
  · refine awp_sx prog_ok hP hnt [(33, .int .i64 ((N : Int) - 1))] [] [] [0, 6, 7, 8, 9, 10] (by kernel_rfl) (G := fun K => IntKind.i64.wrap ((↑l.length : Int) - (1 : Int)) = (↑N : Int) - (1 : Int) ∧ K (St.mk [(0, V.d (ib l)), (6, V.own 4 0 (↑l.length : Int).toNat 1), (7, V.own 18 0 (W + 1) 1), (8, V.d (Abs.D.int IntKind.i64 (↑(W + 1) : Int))), (9, V.own 14 0 (↑(W + 1) : Int).toNat 1), (10, V.d (Abs.D.int IntKind.i64 ((↑N : Int) - (1 : Int))))] [(4, some (Blk.mk (zeros (↑l.length : Int).toNat (TI.mk (Kind.int IntKind.i64) 1 8 [Abs.D.int IntKind.i64 (0 : Int)]).zero) true)), (7, none), (14, some (Blk.mk (zeros (↑(W + 1) : Int).toNat (TI.mk (Kind.int IntKind.i64) 1 8 [Abs.D.int IntKind.i64 (0 : Int)]).zero) true)), (18, some (Blk.mk (ibs o ++ setCells (zeros 1 (TI.mk (Kind.int IntKind.i64) 1 8 [Abs.D.int IntKind.i64 (0 : Int)]).zero) 0 [Abs.D.int IntKind.i64 (0 : Int)]) true))] 24)) (fun K => by kernel_rfl) ?_
    refine ⟨by rw [← hN, w64] <;> omega, ?_⟩
    refine awp_block ?_
    refine awp_loop (ι := Nat × List Nat) (fun p => ⟨[(0, .d (ib l)), (6, .own 0 0 N 1), (7, .own 1 0 (W + 1) 1), (8, .d (.int .i64 (W + 1 : Nat))), (9, .own 2 0 (W + 1) 1), (10, .d (.int .i64 ((N : Int) - 1 - p.1)))], [(0, some ⟨ibs (Q p.1), true⟩), (1, some ⟨ibs D, true⟩), (2, some ⟨ibs p.2, true⟩)], 3⟩)
      (fun p => p.1 ≤ N ∧ Db 32768 p.2 ∧ p.2.length = W + 1 ∧ vb 32768 p.2 = A / 2 ^ (N - p.1) % B) (fun p => N - p.1) (0, List.replicate (W + 1) 0) [(0, 4), (1, 18), (2, 14)] ⟨by omega, (fun d hd => by rw [List.mem_replicate] at hd; omega), by simp, ?_⟩ ?_ ?_
    · simp only
      rw [vb_zeros, Nat.sub_zero, Nat.div_eq_of_lt hA2, Nat.zero_mod]
    · simp only [hcD, hQ0]
      rw [Int.toNat_natCast, Int.toNat_natCast]
      (constructor <;> simp [hl, envOk, memOk, conv, St.get, St.blk, zeros_ib, hN])
    intro ⟨j, r⟩ ⟨hj, hr1, hr2, hr3⟩
    simp only at hj hr1 hr2 hr3 ⊢
    refine awp_seq_k fun K1 hK1 => ?_
    refine awp_sx prog_ok hP hnt [] [] [] [0, 6, 7, 8, 9, 10, 35] (by kernel_rfl) (G := fun K => K (St.mk [(0, V.d (ib l)), (6, V.own 0 0 N 1), (7, V.own 1 0 (W + 1) 1), (8, V.d (Abs.D.int IntKind.i64 (↑(W + 1) : Int))), (9, V.own 2 0 (W + 1) 1), (10, V.d (Abs.D.int IntKind.i64 ((↑N : Int) - (1 : Int) - (↑j : Int)))), (35, V.d (Abs.D.bool (decide ((↑N : Int) - (1 : Int) - (↑j : Int) ≥ (0 : Int)))))] [(0, some (Blk.mk (ibs (Q j)) true)), (1, some (Blk.mk (ibs D) true)), (2, some (Blk.mk (ibs r) true))] 5)) (fun K => by kernel_rfl) ?_
    refine awp_cond rfl (fun e => awp_skip (hK1 _ ?_)) (fun e => awp_exit ⟨r, [(0, 0), (1, 2)], ?_, ?_⟩)
    · simp at e
      obtain ⟨i, hi⟩ : ∃ i, i = N - 1 - j := ⟨_, rfl⟩
      have ei : (N : Int) - 1 - j = i := by omega
      rw [ei]
      have hiN : i < N := by omega
      have hQj := hQs j (by omega)
      rw [← hi] at hQj
      rw [show N - j = i + 1 by omega] at hr3
      obtain ⟨a, ha⟩ := get_ex (l := l) (i := i) (by omega)
      have hab : a = A / 2 ^ i % 2 := by rw [← hbit i hiN, List.getD_eq_getElem?_getD, ha]; rfl
      have ha2 : a < 2 := by rw [hab]; exact Nat.mod_lt _ (by omega)
      obtain ⟨dv1, dv2⟩ := div_bit (A := A) (B := B) (i := i) hB0
      rw [← hab, ← hr3] at dv1 dv2
      have hrB : vb 32768 r < B := by rw [hr3]; exact Nat.mod_lt _ hB0
      -- the step's end
      have hstep : ∀ (Qn : List Nat) (rn : List Nat) (s : St), Qn = Q (j + 1) → Db 32768 rn → rn.length = W + 1 → vb 32768 rn = A / 2 ^ i % B →
          Weak Cx.lids [(0, 0), (1, 1), (2, 2)] s ⟨[(0, .d (ib l)), (6, .own 0 0 N 1), (7, .own 1 0 (W + 1) 1), (8, .d (.int .i64 (W + 1 : Nat))), (9, .own 2 0 (W + 1) 1), (10, .d (.int .i64 ((N : Int) - 1 - (j + 1 : Nat))))], [(0, some ⟨ibs Qn, true⟩), (1, some ⟨ibs D, true⟩), (2, some ⟨ibs rn, true⟩)], 3⟩ →
          ∃ (i0 : Nat × List Nat) (ρ : List (Nat × Nat)), ((i0.1 ≤ N ∧ Db 32768 i0.2 ∧ i0.2.length = W + 1 ∧ vb 32768 i0.2 = A / 2 ^ (N - i0.1) % B) ∧ N - i0.1 < N - j) ∧
            Weak Cx.lids ρ s ⟨[(0, .d (ib l)), (6, .own 0 0 N 1), (7, .own 1 0 (W + 1) 1), (8, .d (.int .i64 (W + 1 : Nat))), (9, .own 2 0 (W + 1) 1), (10, .d (.int .i64 ((N : Int) - 1 - i0.1)))], [(0, some ⟨ibs (Q i0.1), true⟩), (1, some ⟨ibs D, true⟩), (2, some ⟨ibs i0.2, true⟩)], 3⟩ :=
        fun Qn rn s h1 h2 h3 h4 h5 => by
          subst h1
          exact ⟨(j + 1, rn), _, ⟨⟨by simp only; omega, h2, h3, by simp only; rw [h4, show N - (j + 1) = i by omega]⟩, by simp only; omega⟩, h5⟩
      refine awp_seq_k fun K2 hK2 => ?_
      refine awp_block ?_
      refine awp_sx prog_ok hP hnt [] [] [some [.int .i64 a]] [0, 6, 7, 8, 9, 10, 11] (by kernel_rfl) (G := fun K => ((0 : Int) ≤ (↑i : Int) ∧ (↑i : Int) < (↑l.length : Int) ∧ ((↑i : Int).toNat + 1) * 1 ≤ (ibs l).length) ∧ (List.drop ((↑i : Int).toNat * 1) (ibs l))[0]? = some (Abs.D.int IntKind.i64 (↑a : Int)) ∧ K (St.mk [(0, V.d (ib l)), (6, V.own 0 0 N 1), (7, V.own 1 0 (W + 1) 1), (8, V.d (Abs.D.int IntKind.i64 (↑(W + 1) : Int))), (9, V.own 2 0 (W + 1) 1), (10, V.d (Abs.D.int IntKind.i64 (↑i : Int))), (11, V.d (Abs.D.int IntKind.i64 (↑a : Int)))] [(0, some (Blk.mk (ibs (Q j)) true)), (1, some (Blk.mk (ibs D) true)), (2, some (Blk.mk (ibs r) true))] 10)) (fun K => by kernel_rfl) ?_
      refine ⟨⟨by omega, by omega, by simp; omega⟩, drop0 (ibs_some ha), ?_⟩
      -- doubled
      refine awp_cut (ι := List Nat) (fun r' => ⟨[(0, .d (ib l)), (6, .own 0 0 N 1), (7, .own 1 0 (W + 1) 1), (8, .d (.int .i64 (W + 1 : Nat))), (9, .own 2 0 (W + 1) 1), (10, .d (.int .i64 i))], [(0, some ⟨ibs (Q j), true⟩), (1, some ⟨ibs D, true⟩), (2, some ⟨ibs r', true⟩)], 3⟩)
        (fun r' => Db 32768 r' ∧ r'.length = W + 1 ∧ vb 32768 r' = 2 * vb 32768 r + a) ?_ ?_
      · refine awp_sx prog_ok hP hnt [] [] [] [0, 6, 7, 8, 9, 10, 11, 12] (by kernel_rfl) (G := fun K => K (St.mk [(0, V.d (ib l)), (6, V.own 0 0 N 1), (7, V.own 1 0 (W + 1) 1), (8, V.d (Abs.D.int IntKind.i64 (↑(W + 1) : Int))), (9, V.own 2 0 (W + 1) 1), (10, V.d (Abs.D.int IntKind.i64 (↑i : Int))), (11, V.d (Abs.D.int IntKind.i64 (↑a : Int))), (12, V.d (Abs.D.int IntKind.i64 (0 : Int)))] [(0, some (Blk.mk (ibs (Q j)) true)), (1, some (Blk.mk (ibs D) true)), (2, some (Blk.mk (ibs r) true))] 11)) (fun K => by kernel_rfl) ?_
        refine awp_block ?_
        refine awp_loop (ι := Nat × List Nat × Nat) (fun p => ⟨[(0, .d (ib l)), (6, .own 0 0 N 1), (7, .own 1 0 (W + 1) 1), (8, .d (.int .i64 (W + 1 : Nat))), (9, .own 2 0 (W + 1) 1), (10, .d (.int .i64 i)), (11, .d (.int .i64 p.2.2)), (12, .d (.int .i64 p.1))], [(0, some ⟨ibs (Q j), true⟩), (1, some ⟨ibs D, true⟩), (2, some ⟨ibs p.2.1, true⟩)], 3⟩)
          (fun p => p.1 ≤ W + 1 ∧ Db 32768 p.2.1 ∧ p.2.1.length = W + 1 ∧ p.2.2 < 2 ∧ p.2.1.drop p.1 = r.drop p.1 ∧ vb 32768 (p.2.1.take p.1) + 32768 ^ p.1 * p.2.2 = 2 * vb 32768 (r.take p.1) + a) (fun p => W + 1 - p.1) (0, r, a) [(0, 0), (1, 1), (2, 2)] ⟨by omega, hr1, hr2, ha2, rfl, by simp [vb]⟩ ?_ ?_
        · (constructor <;> simp [hl, envOk, memOk, conv, St.get, St.blk])
        intro ⟨k, r', c⟩ ⟨g1, g2, g3, g4, g5, g6⟩
        simp only at g1 g2 g3 g4 g5 g6 ⊢
        refine awp_seq_k fun K3 hK3 => ?_
        refine awp_sx prog_ok hP hnt [] [] [] [0, 6, 7, 8, 9, 10, 11, 12, 44] (by kernel_rfl) (G := fun K => K (St.mk [(0, V.d (ib l)), (6, V.own 0 0 N 1), (7, V.own 1 0 (W + 1) 1), (8, V.d (Abs.D.int IntKind.i64 (↑(W + 1) : Int))), (9, V.own 2 0 (W + 1) 1), (10, V.d (Abs.D.int IntKind.i64 (↑i : Int))), (11, V.d (Abs.D.int IntKind.i64 (↑c : Int))), (12, V.d (Abs.D.int IntKind.i64 (↑k : Int))), (44, V.d (Abs.D.bool (decide ((↑k : Int) < (↑(W + 1) : Int)))))] [(0, some (Blk.mk (ibs (Q j)) true)), (1, some (Blk.mk (ibs D) true)), (2, some (Blk.mk (ibs r') true))] 6)) (fun K => by kernel_rfl) ?_
        refine awp_cond rfl (fun e2 => awp_skip (hK3 _ ?_)) (fun e2 => awp_exit ⟨r', [(0, 0), (1, 1), (2, 2)], ⟨g2, g3, ?_⟩, ?_⟩)
        · simp at e2
          have hk : k < W + 1 := by omega
          obtain ⟨w, hw⟩ := get_ex (l := r') (i := k) (by omega)
          have hw2 : w < 32768 := db_get g2 hw
          have hwr : r[k]? = some w := by rw [← get_of_drop g5, hw]
          have hds := dbl_step (b := 32768) (o := r') (O := r) (c := c) (a := a) (T := 2 * w + c) (by omega) hwr rfl g6
          have hm32 : (2 * w + c) % 32768 < 32768 := Nat.mod_lt _ (by omega)
          refine awp_seq_k fun K4 hK4 => ?_
          refine awp_block ?_
          refine awp_sx prog_ok hP hnt [(51, .int .i64 (2 * w : Nat)), (53, .int .i64 (2 * w + c : Nat))] [] [some [.int .i64 w]] [0, 6, 7, 8, 9, 10, 12, 13] (by kernel_rfl) (G := fun K => ((0 : Int) ≤ (↑k : Int) ∧ (↑k : Int) < (↑(W + 1) : Int)) ∧ (ibs r')[0 + (↑k : Int).toNat * 1]? = some (Abs.D.int IntKind.i64 (↑w : Int)) ∧ IntKind.i64.wrap ((2 : Int) * (↑w : Int)) = (↑(2 * w) : Int) ∧ IntKind.i64.wrap ((↑(2 * w) : Int) + (↑c : Int)) = (↑(2 * w + c) : Int) ∧ K (St.mk [(0, V.d (ib l)), (6, V.own 0 0 N 1), (7, V.own 1 0 (W + 1) 1), (8, V.d (Abs.D.int IntKind.i64 (↑(W + 1) : Int))), (9, V.own 2 0 (W + 1) 1), (10, V.d (Abs.D.int IntKind.i64 (↑i : Int))), (12, V.d (Abs.D.int IntKind.i64 (↑k : Int))), (13, V.d (Abs.D.int IntKind.i64 (↑(2 * w + c) : Int)))] [(0, some (Blk.mk (ibs (Q j)) true)), (1, some (Blk.mk (ibs D) true)), (2, some (Blk.mk (ibs r') true))] 14)) (fun K => by kernel_rfl) ?_
          refine ⟨⟨by omega, by omega⟩, by rw [Int.toNat_natCast, Nat.zero_add, Nat.mul_one]; exact ibs_some hw, by rw [w64] <;> omega, by rw [w64] <;> omega, ?_⟩
          have hsc := setCells_ib r' k ((2 * w + c) % 32768)
          refine awp_sx prog_ok hP hnt [(57, .int .i64 ((2 * w + c) % 32768 : Nat))] [] [] [0, 6, 7, 8, 9, 10, 12, 13] (by kernel_rfl) (G := fun K => (32768 : Int) ≠ (0 : Int) ∧ (↑(2 * w + c) : Int).tmod (32768 : Int) = (↑((2 * w + c) % 32768) : Int) ∧ ((0 : Int) ≤ (↑k : Int) ∧ (↑k : Int) < (↑(W + 1) : Int)) ∧ 0 + (↑k : Int).toNat * 1 + [Abs.D.int IntKind.i64 (↑((2 * w + c) % 32768) : Int)].length ≤ (ibs r').length ∧ K (St.mk [(0, V.d (ib l)), (6, V.own 0 0 N 1), (7, V.own 1 0 (W + 1) 1), (8, V.d (Abs.D.int IntKind.i64 (↑(W + 1) : Int))), (9, V.own 2 0 (W + 1) 1), (10, V.d (Abs.D.int IntKind.i64 (↑i : Int))), (12, V.d (Abs.D.int IntKind.i64 (↑k : Int))), (13, V.d (Abs.D.int IntKind.i64 (↑(2 * w + c) : Int)))] [(0, some (Blk.mk (ibs (Q j)) true)), (1, some (Blk.mk (ibs D) true)), (2, some (Blk.mk (setCells (ibs r') (0 + (↑k : Int).toNat * 1) [Abs.D.int IntKind.i64 (↑((2 * w + c) % 32768) : Int)]) true))] 20)) (fun K => by kernel_rfl) ?_
          refine ⟨by decide, tmodN (2 * w + c) 32768, ⟨by omega, by omega⟩, by rw [Int.toNat_natCast, ibs_len, g3]; show 0 + k * 1 + 1 ≤ W + 1; omega, ?_⟩
          rw [Int.toNat_natCast, Nat.mul_one, Nat.zero_add, hsc]
          refine awp_x prog_ok hP hnt [(60, .int .i64 ((2 * w + c) / 32768 : Nat))] [] [] [0, 6, 7, 8, 9, 10, 11, 12] (by kernel_rfl) (G := fun K => (32768 : Int) ≠ (0 : Int) ∧ IntKind.i64.wrap ((↑(2 * w + c) : Int).tdiv (32768 : Int)) = (↑((2 * w + c) / 32768) : Int) ∧ K (St.mk [(0, V.d (ib l)), (6, V.own 0 0 N 1), (7, V.own 1 0 (W + 1) 1), (8, V.d (Abs.D.int IntKind.i64 (↑(W + 1) : Int))), (9, V.own 2 0 (W + 1) 1), (10, V.d (Abs.D.int IntKind.i64 (↑i : Int))), (12, V.d (Abs.D.int IntKind.i64 (↑k : Int))), (11, V.d (Abs.D.int IntKind.i64 (↑((2 * w + c) / 32768) : Int)))] [(0, some (Blk.mk (ibs (Q j)) true)), (1, some (Blk.mk (ibs D) true)), (2, some (Blk.mk (ibs (r'.set k ((2 * w + c) % 32768))) true))] 23)) (fun K => by kernel_rfl) ?_
          refine ⟨by decide, tdivN (2 * w + c) 32768 (by omega), hK4 _ ?_⟩
          refine awp_x prog_ok hP hnt [(46, .int .i64 (k + 1 : Nat))] [] [] [0, 6, 7, 8, 9, 10, 11, 12] (by kernel_rfl) (G := fun K => IntKind.i64.wrap ((↑k : Int) + (1 : Int)) = (↑(k + 1) : Int) ∧ K (St.mk [(0, V.d (ib l)), (6, V.own 0 0 N 1), (7, V.own 1 0 (W + 1) 1), (8, V.d (Abs.D.int IntKind.i64 (↑(W + 1) : Int))), (9, V.own 2 0 (W + 1) 1), (10, V.d (Abs.D.int IntKind.i64 (↑i : Int))), (12, V.d (Abs.D.int IntKind.i64 (↑(k + 1) : Int))), (11, V.d (Abs.D.int IntKind.i64 (↑((2 * w + c) / 32768) : Int)))] [(0, some (Blk.mk (ibs (Q j)) true)), (1, some (Blk.mk (ibs D) true)), (2, some (Blk.mk (ibs (r'.set k ((2 * w + c) % 32768))) true))] 26)) (fun K => by kernel_rfl) ?_
          refine ⟨by rw [w64] <;> omega, (k + 1, r'.set k ((2 * w + c) % 32768), (2 * w + c) / 32768), [(0, 0), (1, 1), (2, 2)], ⟨⟨by simp only; omega, db_set g2 hm32, by simp [g3], by simp only; omega, drop_set_succ g5, hds⟩, by simp only; omega⟩, ?_⟩
          (constructor <;> simp [hl, envOk, memOk, conv, St.get, St.blk])
        · simp at e2
          have hk : k = W + 1 := by omega
          subst hk
          rw [List.take_of_length_le (by omega), List.take_of_length_le (by omega)] at g6
          have hc0 : c = 0 := by
            rcases Nat.eq_zero_or_pos c with h | h
            · exact h
            · have : 32768 ^ (W + 1) * 1 ≤ 32768 ^ (W + 1) * c := Nat.mul_le_mul_left _ h
              omega
          rw [hc0] at g6
          omega
        · (constructor <;> simp [hl, envOk, memOk, conv, St.get, St.blk])
      intro r' ⟨f1, f2, f3⟩
      -- compared
      refine awp_sx prog_ok hP hnt [(62, .int .i64 (W : Nat))] [] [] [0, 6, 7, 8, 9, 10, 14] (by kernel_rfl) (G := fun K => IntKind.i64.wrap ((↑(W + 1) : Int) - (1 : Int)) = (↑W : Int) ∧ K (St.mk [(0, V.d (ib l)), (6, V.own 0 0 N 1), (7, V.own 1 0 (W + 1) 1), (8, V.d (Abs.D.int IntKind.i64 (↑(W + 1) : Int))), (9, V.own 2 0 (W + 1) 1), (10, V.d (Abs.D.int IntKind.i64 (↑i : Int))), (14, V.d (Abs.D.int IntKind.i64 (↑W : Int)))] [(0, some (Blk.mk (ibs (Q j)) true)), (1, some (Blk.mk (ibs D) true)), (2, some (Blk.mk (ibs r') true))] 6)) (fun K => by kernel_rfl) ?_
      refine ⟨by rw [w64] <;> omega, ?_⟩
      refine awp_cut (ι := Nat) (fun k => ⟨[(0, .d (ib l)), (6, .own 0 0 N 1), (7, .own 1 0 (W + 1) 1), (8, .d (.int .i64 (W + 1 : Nat))), (9, .own 2 0 (W + 1) 1), (10, .d (.int .i64 i)), (14, .d (.int .i64 k))], [(0, some ⟨ibs (Q j), true⟩), (1, some ⟨ibs D, true⟩), (2, some ⟨ibs r', true⟩)], 3⟩)
        (fun k => k < W + 1 ∧ (∀ a, k < a → r'.getD a 0 = D.getD a 0) ∧ (k = 0 ∨ r'.getD k 0 ≠ D.getD k 0)) ?_ ?_
      · refine awp_block ?_
        refine awp_loop (ι := Nat) (fun k => ⟨[(0, .d (ib l)), (6, .own 0 0 N 1), (7, .own 1 0 (W + 1) 1), (8, .d (.int .i64 (W + 1 : Nat))), (9, .own 2 0 (W + 1) 1), (10, .d (.int .i64 i)), (14, .d (.int .i64 k))], [(0, some ⟨ibs (Q j), true⟩), (1, some ⟨ibs D, true⟩), (2, some ⟨ibs r', true⟩)], 3⟩)
          (fun k => k < W + 1 ∧ (∀ a, k < a → r'.getD a 0 = D.getD a 0)) (fun k => k) W [(0, 0), (1, 1), (2, 2)] ⟨by omega, fun a ha => ?_⟩ ?_ ?_
        · rw [List.getD_eq_getElem?_getD, List.getD_eq_getElem?_getD, List.getElem?_eq_none (by omega), List.getElem?_eq_none (by omega)]
        · (constructor <;> simp [hl, envOk, memOk, conv, St.get, St.blk])
        intro k ⟨g1, g2⟩
        refine awp_seq_k fun K3 hK3 => ?_
        rcases Nat.eq_zero_or_pos k with hk0 | hk0
        · subst hk0
          refine awp_sx prog_ok hP hnt [(64, .bool false), (75, .bool false)] [] [] [0, 6, 7, 8, 9, 10, 14, 75] (by kernel_rfl) (G := fun K => decide ((↑0 : Int) > (0 : Int)) = false ∧ false = false ∧ K (St.mk [(0, V.d (ib l)), (6, V.own 0 0 N 1), (7, V.own 1 0 (W + 1) 1), (8, V.d (Abs.D.int IntKind.i64 (↑(W + 1) : Int))), (9, V.own 2 0 (W + 1) 1), (10, V.d (Abs.D.int IntKind.i64 (↑i : Int))), (14, V.d (Abs.D.int IntKind.i64 (↑0 : Int))), (75, V.d (Abs.D.bool false))] [(0, some (Blk.mk (ibs (Q j)) true)), (1, some (Blk.mk (ibs D) true)), (2, some (Blk.mk (ibs r') true))] 16)) (fun K => by kernel_rfl) ?_
          refine ⟨by simp, rfl, awp_cond (b := false) rfl nofun fun _ => awp_exit ⟨0, [(0, 0), (1, 1), (2, 2)], ⟨g1, g2, .inl rfl⟩, ?_⟩⟩
          (constructor <;> simp [hl, envOk, memOk, conv, St.get, St.blk])
        · obtain ⟨x, hx⟩ := get_ex (l := r') (i := k) (by omega)
          obtain ⟨y, hy⟩ := get_ex (l := D) (i := k) (by omega)
          have hxd : r'.getD k 0 = x := by rw [List.getD_eq_getElem?_getD, hx]; rfl
          have hyd : D.getD k 0 = y := by rw [List.getD_eq_getElem?_getD, hy]; rfl
          refine awp_sx prog_ok hP hnt [(64, .bool true), (75, .bool (decide (x = y)))] [] [some [.int .i64 x], some [.int .i64 y]] [0, 6, 7, 8, 9, 10, 14, 75] (by kernel_rfl) (G := fun K => decide ((↑k : Int) > (0 : Int)) = true ∧ ((0 : Int) ≤ (↑k : Int) ∧ (↑k : Int) < (↑(W + 1) : Int)) ∧ (ibs r')[0 + (↑k : Int).toNat * 1]? = some (Abs.D.int IntKind.i64 (↑x : Int)) ∧ ((0 : Int) ≤ (↑k : Int) ∧ (↑k : Int) < (↑(W + 1) : Int)) ∧ (ibs D)[0 + (↑k : Int).toNat * 1]? = some (Abs.D.int IntKind.i64 (↑y : Int)) ∧ ((↑x : Int) == (↑y : Int)) = decide (x = y) ∧ K (St.mk [(0, V.d (ib l)), (6, V.own 0 0 N 1), (7, V.own 1 0 (W + 1) 1), (8, V.d (Abs.D.int IntKind.i64 (↑(W + 1) : Int))), (9, V.own 2 0 (W + 1) 1), (10, V.d (Abs.D.int IntKind.i64 (↑i : Int))), (14, V.d (Abs.D.int IntKind.i64 (↑k : Int))), (75, V.d (Abs.D.bool (decide (x = y))))] [(0, some (Blk.mk (ibs (Q j)) true)), (1, some (Blk.mk (ibs D) true)), (2, some (Blk.mk (ibs r') true))] 16)) (fun K => by kernel_rfl) ?_
          refine ⟨by simp; omega, ⟨by omega, by omega⟩, by rw [Int.toNat_natCast, Nat.zero_add, Nat.mul_one]; exact ibs_some hx, ⟨by omega, by omega⟩, by rw [Int.toNat_natCast, Nat.zero_add, Nat.mul_one]; exact ibs_some hy, ?_, awp_cond rfl (fun e2 => awp_skip (hK3 _ ?_)) (fun e2 => awp_exit ⟨k, [(0, 0), (1, 1), (2, 2)], ⟨g1, g2, .inr ?_⟩, ?_⟩)⟩
          · show ((x : Int) == y) = decide (x = y)
            rw [Bool.eq_iff_iff]; simp; omega
          · have e2 := of_decide_eq_true e2
            refine awp_block ?_
            refine awp_x prog_ok hP hnt [(77, .int .i64 (k - 1 : Nat))] [] [] [0, 6, 7, 8, 9, 10, 14] (by kernel_rfl) (G := fun K => IntKind.i64.wrap ((↑k : Int) - (1 : Int)) = (↑(k - 1) : Int) ∧ K (St.mk [(0, V.d (ib l)), (6, V.own 0 0 N 1), (7, V.own 1 0 (W + 1) 1), (8, V.d (Abs.D.int IntKind.i64 (↑(W + 1) : Int))), (9, V.own 2 0 (W + 1) 1), (10, V.d (Abs.D.int IntKind.i64 (↑i : Int))), (14, V.d (Abs.D.int IntKind.i64 (↑(k - 1) : Int)))] [(0, some (Blk.mk (ibs (Q j)) true)), (1, some (Blk.mk (ibs D) true)), (2, some (Blk.mk (ibs r') true))] 19)) (fun K => by kernel_rfl) ?_
            refine ⟨by rw [w64] <;> omega, k - 1, [(0, 0), (1, 1), (2, 2)], ⟨⟨by omega, fun a ha => ?_⟩, by omega⟩, ?_⟩
            · by_cases h : a = k
              · rw [h, hxd, hyd]; exact e2
              · exact g2 a (by omega)
            · (constructor <;> simp [hl, envOk, memOk, conv, St.get, St.blk])
          · rw [hxd, hyd]; exact of_decide_eq_false e2
          · (constructor <;> simp [hl, envOk, memOk, conv, St.get, St.blk])
      intro k ⟨g1, g2, g3⟩
      obtain ⟨x, hx⟩ := get_ex (l := r') (i := k) (by omega)
      obtain ⟨y, hy⟩ := get_ex (l := D) (i := k) (by omega)
      have hxd : r'.getD k 0 = x := by rw [List.getD_eq_getElem?_getD, hx]; rfl
      have hyd : D.getD k 0 = y := by rw [List.getD_eq_getElem?_getD, hy]; rfl
      have hcmp := vb_cmp_at (b := 32768) (by omega) f1 hDd g2 g3
      rw [hDv, f3, hxd, hyd] at hcmp
      refine awp_seq_k fun K3 hK3 => ?_
      refine awp_sx prog_ok hP hnt [] [] [some [.int .i64 x], some [.int .i64 y]] [0, 6, 7, 8, 9, 10, 86] (by kernel_rfl) (G := fun K => ((0 : Int) ≤ (↑k : Int) ∧ (↑k : Int) < (↑(W + 1) : Int)) ∧ (ibs r')[0 + (↑k : Int).toNat * 1]? = some (Abs.D.int IntKind.i64 (↑x : Int)) ∧ ((0 : Int) ≤ (↑k : Int) ∧ (↑k : Int) < (↑(W + 1) : Int)) ∧ (ibs D)[0 + (↑k : Int).toNat * 1]? = some (Abs.D.int IntKind.i64 (↑y : Int)) ∧ K (St.mk [(0, V.d (ib l)), (6, V.own 0 0 N 1), (7, V.own 1 0 (W + 1) 1), (8, V.d (Abs.D.int IntKind.i64 (↑(W + 1) : Int))), (9, V.own 2 0 (W + 1) 1), (10, V.d (Abs.D.int IntKind.i64 (↑i : Int))), (86, V.d (Abs.D.bool (decide ((↑x : Int) < (↑y : Int)))))] [(0, some (Blk.mk (ibs (Q j)) true)), (1, some (Blk.mk (ibs D) true)), (2, some (Blk.mk (ibs r') true))] 12)) (fun K => by kernel_rfl) ?_
      refine ⟨⟨by omega, by omega⟩, by rw [Int.toNat_natCast, Nat.zero_add, Nat.mul_one]; exact ibs_some hx, ⟨by omega, by omega⟩, by rw [Int.toNat_natCast, Nat.zero_add, Nat.mul_one]; exact ibs_some hy, ?_⟩
      refine awp_cond rfl (fun e2 => awp_exit (hK2 _ ?_)) (fun e2 => awp_skip (hK3 _ ?_))
      · have e2 := of_decide_eq_true e2
        have hlt : 2 * vb 32768 r + a < B := hcmp.2 (by omega)
        rw [if_neg (by omega)] at dv1 dv2
        rw [if_neg (by omega)] at hQj
        refine awp_x prog_ok hP hnt [(37, .int .i64 ((N : Int) - 1 - (j + 1 : Nat)))] [] [] [0, 6, 7, 8, 9, 10] (by kernel_rfl) (G := fun K => IntKind.i64.wrap ((↑i : Int) - (1 : Int)) = (↑N : Int) - (1 : Int) - (↑(j + 1) : Int) ∧ K (St.mk [(0, V.d (ib l)), (6, V.own 0 0 N 1), (7, V.own 1 0 (W + 1) 1), (8, V.d (Abs.D.int IntKind.i64 (↑(W + 1) : Int))), (9, V.own 2 0 (W + 1) 1), (10, V.d (Abs.D.int IntKind.i64 ((↑N : Int) - (1 : Int) - (↑(j + 1) : Int))))] [(0, some (Blk.mk (ibs (Q j)) true)), (1, some (Blk.mk (ibs D) true)), (2, some (Blk.mk (ibs r') true))] 15)) (fun K => by kernel_rfl) ?_
        refine ⟨by rw [w64] <;> omega, hstep (Q j) r' _ hQj.symm f1 f2 (by omega) ?_⟩
        (constructor <;> simp [hl, envOk, memOk, conv, St.get, St.blk])
      · have e2 := of_decide_eq_false e2
        have hge : B ≤ 2 * vb 32768 r + a := by
          rcases Nat.lt_or_ge (2 * vb 32768 r + a) B with h | h
          · have := hcmp.1 h; omega
          · exact h
        rw [if_pos hge] at dv1 dv2
        rw [if_pos dv2] at hQj
        have hqs := setCells_ib (Q j) i 1
        rw [← hQj] at hqs
        refine awp_sx prog_ok hP hnt [] [] [] [0, 6, 7, 8, 9, 10] (by kernel_rfl) (G := fun K => ((0 : Int) ≤ (↑i : Int) ∧ (↑i : Int) < (↑N : Int)) ∧ 0 + (↑i : Int).toNat * 1 + [Abs.D.int IntKind.i64 (1 : Int)].length ≤ (ibs (Q j)).length ∧ K (St.mk [(0, V.d (ib l)), (6, V.own 0 0 N 1), (7, V.own 1 0 (W + 1) 1), (8, V.d (Abs.D.int IntKind.i64 (↑(W + 1) : Int))), (9, V.own 2 0 (W + 1) 1), (10, V.d (Abs.D.int IntKind.i64 (↑i : Int)))] [(0, some (Blk.mk (setCells (ibs (Q j)) (0 + (↑i : Int).toNat * 1) [Abs.D.int IntKind.i64 (1 : Int)]) true)), (1, some (Blk.mk (ibs D) true)), (2, some (Blk.mk (ibs r') true))] 16)) (fun K => by kernel_rfl) ?_
        refine ⟨⟨by omega, by omega⟩, by rw [Int.toNat_natCast, ibs_len, hQl]; show 0 + i * 1 + 1 ≤ N; omega, ?_⟩
        rw [Int.toNat_natCast, Nat.mul_one, Nat.zero_add]
        rw [show setCells (ibs (Q j)) i [Abs.D.int IntKind.i64 1] = ibs (Q (j + 1)) from hqs]
        refine awp_sx prog_ok hP hnt [] [] [] [0, 6, 7, 8, 9, 10, 15] (by kernel_rfl) (G := fun K => K (St.mk [(0, V.d (ib l)), (6, V.own 0 0 N 1), (7, V.own 1 0 (W + 1) 1), (8, V.d (Abs.D.int IntKind.i64 (↑(W + 1) : Int))), (9, V.own 2 0 (W + 1) 1), (10, V.d (Abs.D.int IntKind.i64 (↑i : Int))), (15, V.d (Abs.D.int IntKind.i64 (0 : Int)))] [(0, some (Blk.mk (ibs (Q (j + 1))) true)), (1, some (Blk.mk (ibs D) true)), (2, some (Blk.mk (ibs r') true))] 17)) (fun K => by kernel_rfl) ?_
        refine awp_sx prog_ok hP hnt [] [] [] [0, 6, 7, 8, 9, 10, 15, 16] (by kernel_rfl) (G := fun K => K (St.mk [(0, V.d (ib l)), (6, V.own 0 0 N 1), (7, V.own 1 0 (W + 1) 1), (8, V.d (Abs.D.int IntKind.i64 (↑(W + 1) : Int))), (9, V.own 2 0 (W + 1) 1), (10, V.d (Abs.D.int IntKind.i64 (↑i : Int))), (15, V.d (Abs.D.int IntKind.i64 (0 : Int))), (16, V.d (Abs.D.int IntKind.i64 (0 : Int)))] [(0, some (Blk.mk (ibs (Q (j + 1))) true)), (1, some (Blk.mk (ibs D) true)), (2, some (Blk.mk (ibs r') true))] 18)) (fun K => by kernel_rfl) ?_
        refine awp_block ?_
        refine awp_loop (ι := Nat × List Nat × Nat) (fun p => ⟨[(0, .d (ib l)), (6, .own 0 0 N 1), (7, .own 1 0 (W + 1) 1), (8, .d (.int .i64 (W + 1 : Nat))), (9, .own 2 0 (W + 1) 1), (10, .d (.int .i64 i)), (15, .d (.int .i64 p.2.2)), (16, .d (.int .i64 p.1))], [(0, some ⟨ibs (Q (j + 1)), true⟩), (1, some ⟨ibs D, true⟩), (2, some ⟨ibs p.2.1, true⟩)], 3⟩)
          (fun p => p.1 ≤ W + 1 ∧ Db 32768 p.2.1 ∧ p.2.1.length = W + 1 ∧ p.2.2 ≤ 1 ∧ p.2.1.drop p.1 = r'.drop p.1 ∧ vb 32768 (p.2.1.take p.1) + vb 32768 (D.take p.1) = vb 32768 (r'.take p.1) + 32768 ^ p.1 * p.2.2) (fun p => W + 1 - p.1) (0, r', 0) [(0, 0), (1, 1), (2, 2)] ⟨by simp, f1, f2, by simp, rfl, by simp [vb]⟩ ?_ ?_
        · (constructor <;> simp [hl, envOk, memOk, conv, St.get, St.blk])
        intro ⟨u, r2, c⟩ ⟨p1, p2, p3, p4, p5, p6⟩
        simp only at p1 p2 p3 p4 p5 p6 ⊢
        refine awp_seq_k fun K4 hK4 => ?_
        refine awp_sx prog_ok hP hnt [] [] [] [0, 6, 7, 8, 9, 10, 15, 16, 92] (by kernel_rfl) (G := fun K => K (St.mk [(0, V.d (ib l)), (6, V.own 0 0 N 1), (7, V.own 1 0 (W + 1) 1), (8, V.d (Abs.D.int IntKind.i64 (↑(W + 1) : Int))), (9, V.own 2 0 (W + 1) 1), (10, V.d (Abs.D.int IntKind.i64 (↑i : Int))), (15, V.d (Abs.D.int IntKind.i64 (↑c : Int))), (16, V.d (Abs.D.int IntKind.i64 (↑u : Int))), (92, V.d (Abs.D.bool (decide ((↑u : Int) < (↑(W + 1) : Int)))))] [(0, some (Blk.mk (ibs (Q (j + 1))) true)), (1, some (Blk.mk (ibs D) true)), (2, some (Blk.mk (ibs r2) true))] 6)) (fun K => by kernel_rfl) ?_
        refine awp_cond rfl (fun e3 => awp_skip (hK4 _ ?_)) (fun e3 => awp_exit (hK2 _ ?_))
        · simp at e3
          have hu : u < W + 1 := by omega
          obtain ⟨x2, hx2⟩ := get_ex (l := r2) (i := u) (by omega)
          obtain ⟨y2, hy2⟩ := get_ex (l := D) (i := u) (by omega)
          have hx2b : x2 < 32768 := db_get p2 hx2
          have hy2b : y2 < 32768 := db_get hDd hy2
          have hxr : r'[u]? = some x2 := by rw [← get_of_drop p5, hx2]
          refine awp_seq_k fun K5 hK5 => ?_
          refine awp_block ?_
          refine awp_sx prog_ok hP hnt [(103, .int .i64 ((x2 : Int) - y2)), (105, .int .i64 ((x2 : Int) - y2 - c))] [] [some [.int .i64 x2], some [.int .i64 y2]] [0, 6, 7, 8, 9, 10, 16, 17] (by kernel_rfl) (G := fun K => ((0 : Int) ≤ (↑u : Int) ∧ (↑u : Int) < (↑(W + 1) : Int)) ∧ (ibs r2)[0 + (↑u : Int).toNat * 1]? = some (Abs.D.int IntKind.i64 (↑x2 : Int)) ∧ ((0 : Int) ≤ (↑u : Int) ∧ (↑u : Int) < (↑(W + 1) : Int)) ∧ (ibs D)[0 + (↑u : Int).toNat * 1]? = some (Abs.D.int IntKind.i64 (↑y2 : Int)) ∧ IntKind.i64.wrap ((↑x2 : Int) - (↑y2 : Int)) = (↑x2 : Int) - (↑y2 : Int) ∧ IntKind.i64.wrap ((↑x2 : Int) - (↑y2 : Int) - (↑c : Int)) = (↑x2 : Int) - (↑y2 : Int) - (↑c : Int) ∧ K (St.mk [(0, V.d (ib l)), (6, V.own 0 0 N 1), (7, V.own 1 0 (W + 1) 1), (8, V.d (Abs.D.int IntKind.i64 (↑(W + 1) : Int))), (9, V.own 2 0 (W + 1) 1), (10, V.d (Abs.D.int IntKind.i64 (↑i : Int))), (16, V.d (Abs.D.int IntKind.i64 (↑u : Int))), (17, V.d (Abs.D.int IntKind.i64 ((↑x2 : Int) - (↑y2 : Int) - (↑c : Int))))] [(0, some (Blk.mk (ibs (Q (j + 1))) true)), (1, some (Blk.mk (ibs D) true)), (2, some (Blk.mk (ibs r2) true))] 18)) (fun K => by kernel_rfl) ?_
          refine ⟨⟨by omega, by omega⟩, by rw [Int.toNat_natCast, Nat.zero_add, Nat.mul_one]; exact ibs_some hx2, ⟨by omega, by omega⟩, by rw [Int.toNat_natCast, Nat.zero_add, Nat.mul_one]; exact ibs_some hy2, by rw [w64] <;> omega, by rw [w64] <;> omega, ?_⟩
          refine awp_sx prog_ok hP hnt [] [] [] [0, 6, 7, 8, 9, 10, 15, 16, 17] (by kernel_rfl) (G := fun K => K (St.mk [(0, V.d (ib l)), (6, V.own 0 0 N 1), (7, V.own 1 0 (W + 1) 1), (8, V.d (Abs.D.int IntKind.i64 (↑(W + 1) : Int))), (9, V.own 2 0 (W + 1) 1), (10, V.d (Abs.D.int IntKind.i64 (↑i : Int))), (16, V.d (Abs.D.int IntKind.i64 (↑u : Int))), (17, V.d (Abs.D.int IntKind.i64 ((↑x2 : Int) - (↑y2 : Int) - (↑c : Int)))), (15, V.d (Abs.D.int IntKind.i64 (0 : Int)))] [(0, some (Blk.mk (ibs (Q (j + 1))) true)), (1, some (Blk.mk (ibs D) true)), (2, some (Blk.mk (ibs r2) true))] 19)) (fun K => by kernel_rfl) ?_
          refine awp_cut (ι := Nat × Nat) (fun v => ⟨[(0, .d (ib l)), (6, .own 0 0 N 1), (7, .own 1 0 (W + 1) 1), (8, .d (.int .i64 (W + 1 : Nat))), (9, .own 2 0 (W + 1) 1), (10, .d (.int .i64 i)), (15, .d (.int .i64 v.2)), (16, .d (.int .i64 u)), (17, .d (.int .i64 v.1))], [(0, some ⟨ibs (Q (j + 1)), true⟩), (1, some ⟨ibs D, true⟩), (2, some ⟨ibs r2, true⟩)], 3⟩)
            (fun v => v.1 < 32768 ∧ v.2 ≤ 1 ∧ v.1 + y2 + c = x2 + 32768 * v.2) ?_ ?_
          · refine awp_sx prog_ok hP hnt [] [] [] [0, 6, 7, 8, 9, 10, 15, 16, 17, 107] (by kernel_rfl) (G := fun K => K (St.mk [(0, V.d (ib l)), (6, V.own 0 0 N 1), (7, V.own 1 0 (W + 1) 1), (8, V.d (Abs.D.int IntKind.i64 (↑(W + 1) : Int))), (9, V.own 2 0 (W + 1) 1), (10, V.d (Abs.D.int IntKind.i64 (↑i : Int))), (16, V.d (Abs.D.int IntKind.i64 (↑u : Int))), (17, V.d (Abs.D.int IntKind.i64 ((↑x2 : Int) - (↑y2 : Int) - (↑c : Int)))), (15, V.d (Abs.D.int IntKind.i64 (0 : Int))), (107, V.d (Abs.D.bool (decide ((↑x2 : Int) - (↑y2 : Int) - (↑c : Int) < (0 : Int)))))] [(0, some (Blk.mk (ibs (Q (j + 1))) true)), (1, some (Blk.mk (ibs D) true)), (2, some (Blk.mk (ibs r2) true))] 21)) (fun K => by kernel_rfl) ?_
            refine awp_cond rfl (fun e4 => ?_) (fun e4 => awp_skip ⟨(x2 - y2 - c, 0), [(0, 0), (1, 1), (2, 2)], ?_, ?_⟩)
            · simp at e4
              refine awp_sx prog_ok hP hnt [(109, .int .i64 (x2 + 32768 - y2 - c : Nat))] [] [] [0, 6, 7, 8, 9, 10, 16, 17] (by kernel_rfl) (G := fun K => IntKind.i64.wrap ((↑x2 : Int) - (↑y2 : Int) - (↑c : Int) + (32768 : Int)) = (↑(x2 + 32768 - y2 - c) : Int) ∧ K (St.mk [(0, V.d (ib l)), (6, V.own 0 0 N 1), (7, V.own 1 0 (W + 1) 1), (8, V.d (Abs.D.int IntKind.i64 (↑(W + 1) : Int))), (9, V.own 2 0 (W + 1) 1), (10, V.d (Abs.D.int IntKind.i64 (↑i : Int))), (16, V.d (Abs.D.int IntKind.i64 (↑u : Int))), (17, V.d (Abs.D.int IntKind.i64 (↑(x2 + 32768 - y2 - c) : Int)))] [(0, some (Blk.mk (ibs (Q (j + 1))) true)), (1, some (Blk.mk (ibs D) true)), (2, some (Blk.mk (ibs r2) true))] 24)) (fun K => by kernel_rfl) ?_
              refine ⟨by rw [w64] <;> omega, ?_⟩
              refine awp_x prog_ok hP hnt [] [] [] [0, 6, 7, 8, 9, 10, 15, 16, 17] (by kernel_rfl) (G := fun K => K (St.mk [(0, V.d (ib l)), (6, V.own 0 0 N 1), (7, V.own 1 0 (W + 1) 1), (8, V.d (Abs.D.int IntKind.i64 (↑(W + 1) : Int))), (9, V.own 2 0 (W + 1) 1), (10, V.d (Abs.D.int IntKind.i64 (↑i : Int))), (16, V.d (Abs.D.int IntKind.i64 (↑u : Int))), (17, V.d (Abs.D.int IntKind.i64 (↑(x2 + 32768 - y2 - c) : Int))), (15, V.d (Abs.D.int IntKind.i64 (1 : Int)))] [(0, some (Blk.mk (ibs (Q (j + 1))) true)), (1, some (Blk.mk (ibs D) true)), (2, some (Blk.mk (ibs r2) true))] 25)) (fun K => by kernel_rfl) ?_
              refine ⟨(x2 + 32768 - y2 - c, 1), [(0, 0), (1, 1), (2, 2)], ⟨by simp only; omega, by simp only; omega, by simp only; omega⟩, ?_⟩
              (constructor <;> simp [hl, envOk, memOk, conv, St.get, St.blk])
            · simp at e4; simp only; omega
            · simp at e4
              have : ((x2 - y2 - c : Nat) : Int) = (x2 : Int) - y2 - c := by omega
              (constructor <;> simp [hl, envOk, memOk, conv, St.get, St.blk, this])
          intro ⟨s, c'⟩ ⟨h1, h2, h3⟩
          simp only at h1 h2 h3 ⊢
          have hbs := bor_step (b := 32768) (o := r2) (by omega) hxr hy2 h3 p6
          have hsc := setCells_ib r2 u s
          refine awp_x prog_ok hP hnt [] [] [] [0, 6, 7, 8, 9, 10, 15, 16] (by kernel_rfl) (G := fun K => ((0 : Int) ≤ (↑u : Int) ∧ (↑u : Int) < (↑(W + 1) : Int)) ∧ 0 + (↑u : Int).toNat * 1 + [Abs.D.int IntKind.i64 (↑s : Int)].length ≤ (ibs r2).length ∧ K (St.mk [(0, V.d (ib l)), (6, V.own 0 0 N 1), (7, V.own 1 0 (W + 1) 1), (8, V.d (Abs.D.int IntKind.i64 (↑(W + 1) : Int))), (9, V.own 2 0 (W + 1) 1), (10, V.d (Abs.D.int IntKind.i64 (↑i : Int))), (15, V.d (Abs.D.int IntKind.i64 (↑c' : Int))), (16, V.d (Abs.D.int IntKind.i64 (↑u : Int)))] [(0, some (Blk.mk (ibs (Q (j + 1))) true)), (1, some (Blk.mk (ibs D) true)), (2, some (Blk.mk (setCells (ibs r2) (0 + (↑u : Int).toNat * 1) [Abs.D.int IntKind.i64 (↑s : Int)]) true))] 8)) (fun K => by kernel_rfl) ?_
          refine ⟨⟨by omega, by omega⟩, by rw [Int.toNat_natCast, ibs_len, p3]; show 0 + u * 1 + 1 ≤ W + 1; omega, hK5 _ ?_⟩
          rw [Int.toNat_natCast, Nat.mul_one, Nat.zero_add, hsc]
          refine awp_x prog_ok hP hnt [(94, .int .i64 (u + 1 : Nat))] [] [] [0, 6, 7, 8, 9, 10, 15, 16] (by kernel_rfl) (G := fun K => IntKind.i64.wrap ((↑u : Int) + (1 : Int)) = (↑(u + 1) : Int) ∧ K (St.mk [(0, V.d (ib l)), (6, V.own 0 0 N 1), (7, V.own 1 0 (W + 1) 1), (8, V.d (Abs.D.int IntKind.i64 (↑(W + 1) : Int))), (9, V.own 2 0 (W + 1) 1), (10, V.d (Abs.D.int IntKind.i64 (↑i : Int))), (15, V.d (Abs.D.int IntKind.i64 (↑c' : Int))), (16, V.d (Abs.D.int IntKind.i64 (↑(u + 1) : Int)))] [(0, some (Blk.mk (ibs (Q (j + 1))) true)), (1, some (Blk.mk (ibs D) true)), (2, some (Blk.mk (ibs (r2.set u s)) true))] 11)) (fun K => by kernel_rfl) ?_
          refine ⟨by rw [w64] <;> omega, (u + 1, r2.set u s, c'), [(0, 0), (1, 1), (2, 2)], ⟨⟨by simp only; omega, db_set p2 h1, by simp [p3], h2, drop_set_succ p5, hbs⟩, by simp only; omega⟩, ?_⟩
          (constructor <;> simp [hl, envOk, memOk, conv, St.get, St.blk])
        · simp at e3
          have hu : u = W + 1 := by omega
          subst hu
          rw [List.take_of_length_le (by omega), List.take_of_length_le (by omega), List.take_of_length_le (by omega), hDv] at p6
          have hv2 := vb_lt (b := 32768) (by omega) p2
          rw [p3] at hv2
          have hc0 : c = 0 := by
            rcases Nat.eq_zero_or_pos c with h | h
            · exact h
            · have : c = 1 := by omega
              subst this
              omega
          rw [hc0] at p6
          refine awp_x prog_ok hP hnt [(37, .int .i64 ((N : Int) - 1 - (j + 1 : Nat)))] [] [] [0, 6, 7, 8, 9, 10] (by kernel_rfl) (G := fun K => IntKind.i64.wrap ((↑i : Int) - (1 : Int)) = (↑N : Int) - (1 : Int) - (↑(j + 1) : Int) ∧ K (St.mk [(0, V.d (ib l)), (6, V.own 0 0 N 1), (7, V.own 1 0 (W + 1) 1), (8, V.d (Abs.D.int IntKind.i64 (↑(W + 1) : Int))), (9, V.own 2 0 (W + 1) 1), (10, V.d (Abs.D.int IntKind.i64 ((↑N : Int) - (1 : Int) - (↑(j + 1) : Int))))] [(0, some (Blk.mk (ibs (Q (j + 1))) true)), (1, some (Blk.mk (ibs D) true)), (2, some (Blk.mk (ibs r2) true))] 9)) (fun K => by kernel_rfl) ?_
          refine ⟨by rw [w64] <;> omega, hstep (Q (j + 1)) r2 _ rfl p2 p3 (by omega) ?_⟩
          (constructor <;> simp [hl, envOk, memOk, conv, St.get, St.blk])
    · simp at e
      have : j = N := by omega
      subst this
      refine ⟨hr1, hr2, ?_⟩
      rw [hr3, Nat.sub_self, Nat.pow_zero, Nat.div_one]
    · simp at e
      have : j = N := by omega
      subst this
      (constructor <;> simp [hl, envOk, memOk, conv, St.get, St.blk])
  intro r ⟨hr1, hr2, hr3⟩
  have ht := btrim_fn (Q N) hQd (by rw [hQl]; omega)
  rw [hQe] at ht
  have hbt := bits_fn r hr1 (by omega)
  rw [hr3] at hbt
  refine awp_sx prog_ok hP hnt [] [.val (.d (ib (db 2 (A / B)))), .val (.d (ib (db 2 (A % B))))] [] [4, 5] (by kernel_rfl) (G := fun K => Fn Try.prog 166 [V.d (Abs.D.lst N (List.take (N * 1) (List.drop 0 (ibs (Q N)))))] [] (V.d (ib (db 2 (A / B)))) [] ∧ Fn Try.prog 242 [V.d (Abs.D.lst (W + 1) (List.take ((W + 1) * 1) (List.drop 0 (ibs r))))] [] (V.d (ib (db 2 (A % B)))) [] ∧ K (St.mk [(4, V.d (ib (db 2 (A / B)))), (5, V.d (ib (db 2 (A % B))))] [(0, some (Blk.mk (ibs (Q N)) false)), (1, some (Blk.mk (ibs r) false))] 8)) (fun K => by kernel_rfl) ?_
  have o1 := own_fm i1_len (hQl N)
  have o2 := own_fm i1_len hr2
  rw [Nat.mul_one] at o1 o2
  rw [Nat.mul_one, Nat.mul_one, o1, o2]
  exact ⟨ht, hbt, awp_ret ⟨.inl rfl, ret2 rfl rfl⟩⟩
end Go.Abs

set_option linter.unusedVariables false
set_option linter.unusedSimpArgs false
namespace Go.Abs
open Go Go.Proofs
set_option maxRecDepth 100000

theorem zabs_fn (x : Int) {K : Nat} (hK : K ≤ 2 ^ 36) (hx : x.natAbs < 2 ^ K) : Fn Try.prog 205 [.agg (zc x)] [] (.agg (zc (x.natAbs : Nat))) [] := by
  refine fn0 (nt := 6) (res := [.cell 2 31]) Try.func205 rfl (by decide) rfl rfl rfl rfl ?_
  intro Cx hP hnt hl
  have h := zmake_fn false (db 2 x.natAbs) (db2 _) (Nat.le_trans (dblen hx) (by omega))
  rw [vbdb, show sgn false x.natAbs = (x.natAbs : Int) from rfl] at h
  refine awp_sx prog_ok hP hnt [] [] [] [1, 2] (by kernel_rfl) (G := fun K => K (St.mk [(1, V.ptr 0 0), (2, V.ptr 1 0)] [(0, some (Blk.mk [D.int IntKind.i64 x.sign, ib (db 2 x.natAbs)] true)), (1, some (Blk.mk [D.int IntKind.i64 (0 : Int), D.lst 0 []] true))] 2)) (fun K => by kernel_rfl) ?_
  refine awp_sx prog_ok hP hnt [] [.val (.agg (zc (x.natAbs : Nat)))] [some [ib (db 2 x.natAbs)]] [2] (by kernel_rfl) (G := fun K => [D.int IntKind.i64 x.sign, ib (db 2 x.natAbs)][1]? = some (ib (db 2 x.natAbs)) ∧ Fn Try.prog 59 [V.d (D.bool false), V.d (ib (db 2 x.natAbs))] [] (V.agg [D.int IntKind.i64 (↑x.natAbs : Int).sign, ib (db 2 (↑x.natAbs : Int).natAbs)]) [] ∧ 0 + (zc (↑x.natAbs : Int)).length ≤ [D.int IntKind.i64 (0 : Int), D.lst 0 []].length ∧ K (St.mk [(2, V.ptr 1 0)] [(0, some (Blk.mk [D.int IntKind.i64 x.sign, ib (db 2 x.natAbs)] true)), (1, some (Blk.mk [D.int IntKind.i64 (↑x.natAbs : Int).sign, ib (db 2 (↑x.natAbs : Int).natAbs)] true))] 6)) (fun K => by kernel_rfl) ?_
  exact ⟨rfl, h, by simp [zc], awp_ret ⟨.inl rfl, retC (l := true) rfl rfl rfl rfl⟩⟩

theorem zsgn_tdiv (x y : Int) : sgn (decide (x.sign * y.sign < 0)) (x.natAbs / y.natAbs) = x.tdiv y := by
  obtain ⟨n, hn⟩ := Int.eq_nat_or_neg x
  obtain ⟨m, hm⟩ := Int.eq_nat_or_neg y
  have e : ((n : Int)).tdiv m = ((n / m : Nat) : Int) := rfl
  have sp : ∀ k : Nat, ((k : Int)).sign = if k = 0 then 0 else 1 := fun k => by
    split
    · rename_i h; rw [h]; rfl
    · exact Int.sign_eq_one_of_pos (by omega)
  have key : ∀ b : Bool, (b = false → x.tdiv y = ((n / m : Nat) : Int)) → (b = true → x.tdiv y = -((n / m : Nat) : Int)) → sgn b (n / m) = x.tdiv y := fun b h1 h2 => by
    cases b with
    | false => rw [h1 rfl]; rfl
    | true => rw [h2 rfl]; rfl
  have hz : ∀ {P : Prop}, n = 0 ∨ m = 0 → ((n / m : Nat) : Int) = 0 := fun h => by rcases h with h | h <;> subst h <;> simp
  have hx : x.natAbs = n := by rcases hn with h | h <;> rw [h] <;> simp
  have hy : y.natAbs = m := by rcases hm with h | h <;> rw [h] <;> simp
  rw [hx, hy]
  refine key _ (fun h => ?_) (fun h => ?_)
  · have h := of_decide_eq_false h
    rcases hn with h1 | h1 <;> rcases hm with h2 | h2 <;> rw [h1, h2] at h ⊢
    · rw [e]
    · rw [Int.tdiv_neg, e]
      rw [Int.sign_neg, sp, sp] at h
      have h3 : n = 0 ∨ m = 0 := by
        rcases Nat.eq_zero_or_pos n with h4 | h4
        · exact .inl h4
        · rcases Nat.eq_zero_or_pos m with h5 | h5
          · exact .inr h5
          · rw [if_neg (by omega), if_neg (by omega)] at h; omega
      have := hz (P := True) h3
      omega
    · rw [Int.neg_tdiv, e]
      rw [Int.sign_neg, sp, sp] at h
      have h3 : n = 0 ∨ m = 0 := by
        rcases Nat.eq_zero_or_pos n with h4 | h4
        · exact .inl h4
        · rcases Nat.eq_zero_or_pos m with h5 | h5
          · exact .inr h5
          · rw [if_neg (by omega), if_neg (by omega)] at h; omega
      have := hz (P := True) h3
      omega
    · rw [Int.neg_tdiv_neg, e]
  · have h := of_decide_eq_true h
    rcases hn with h1 | h1 <;> rcases hm with h2 | h2 <;> rw [h1, h2] at h ⊢
    · rw [sp, sp] at h; split at h <;> split at h <;> omega
    · rw [Int.tdiv_neg, e]
    · rw [Int.neg_tdiv, e]
    · rw [Int.sign_neg, Int.sign_neg, sp, sp] at h; split at h <;> split at h <;> omega
theorem zsgn_tmod (x y : Int) : sgn (decide (x.sign < 0)) (x.natAbs % y.natAbs) = x.tmod y := by
  obtain ⟨n, hn⟩ := Int.eq_nat_or_neg x
  obtain ⟨m, hm⟩ := Int.eq_nat_or_neg y
  have e : ((n : Int)).tmod m = ((n % m : Nat) : Int) := rfl
  have hx : x.natAbs = n := by rcases hn with h | h <;> rw [h] <;> simp
  have hy : y.natAbs = m := by rcases hm with h | h <;> rw [h] <;> simp
  have e2 : x.tmod y = x.tmod m := by rcases hm with h | h <;> rw [h]; exact Int.tmod_neg ..
  rw [hx, hy, e2]
  rcases hn with h | h
  · rw [h, e, decide_eq_false (by
      rcases Nat.eq_zero_or_pos n with h0 | h0
      · subst h0; decide
      · rw [Int.sign_eq_one_of_pos (by omega)]; decide)]; rfl
  · rw [h, Int.neg_tmod, e]
    rcases Nat.eq_zero_or_pos n with h0 | h0
    · subst h0; simp [sgn]
    · rw [decide_eq_true (by rw [Int.sign_eq_neg_one_of_neg (by omega)]; omega)]; rfl

theorem zquo_fn (x y : Int) {K : Nat} (hK : K ≤ 2 ^ 35) (hx : x.natAbs < 2 ^ K) (hy : y.natAbs < 2 ^ K) (y0 : y ≠ 0) : Fn Try.prog 199 [.agg (zc x), .agg (zc y)] [] (.tup [.agg (zc (x.tdiv y)), .agg (zc (x.tmod y))]) [] := by
  refine fn0 (nt := 29) (res := [.cell 4 31, .cell 5 31]) Try.func199 rfl (by decide) rfl rfl rfl rfl ?_
  intro Cx hP hnt hl
  have hd := bdivmod_fn (db 2 x.natAbs) (db 2 y.natAbs) (db2 _) (db2 _) (Nat.le_trans (dblen hx) hK) (Nat.le_trans (dblen hy) hK) (by rw [vbdb]; omega)
  rw [vbdb, vbdb] at hd
  have hq : x.natAbs / y.natAbs < 2 ^ K := Nat.lt_of_le_of_lt (Nat.div_le_self _ _) hx
  have hr : x.natAbs % y.natAbs < 2 ^ K := Nat.lt_of_le_of_lt (Nat.mod_le _ _) hx
  have m1 := zmake_fn (decide (x.sign * y.sign < 0)) (db 2 (x.natAbs / y.natAbs)) (db2 _) (Nat.le_trans (dblen hq) (by omega))
  have m2 := zmake_fn (decide (x.sign < 0)) (db 2 (x.natAbs % y.natAbs)) (db2 _) (Nat.le_trans (dblen hr) (by omega))
  rw [vbdb, zsgn_tdiv] at m1
  rw [vbdb, zsgn_tmod] at m2
  have hw : IntKind.i64.wrap (x.sign * y.sign) = x.sign * y.sign := by
    have h3 : ∀ z : Int, z.sign = 0 ∨ z.sign = 1 ∨ z.sign = -1 := fun z => by
      rcases Int.lt_trichotomy z 0 with h | h | h
      · right; right; exact Int.sign_eq_neg_one_of_neg h
      · left; rw [h]; rfl
      · right; left; exact Int.sign_eq_one_of_pos h
    rcases h3 x with h | h | h <;> rcases h3 y with h' | h' | h' <;> rw [h, h'] <;> decide
  refine awp_sx prog_ok hP hnt [] [] [] [2, 3, 4, 5] (by kernel_rfl) (G := fun K => K (St.mk [(2, V.ptr 0 0), (3, V.ptr 1 0), (4, V.ptr 2 0), (5, V.ptr 3 0)] [(0, some (Blk.mk [D.int IntKind.i64 x.sign, ib (db 2 x.natAbs)] true)), (1, some (Blk.mk [D.int IntKind.i64 y.sign, ib (db 2 y.natAbs)] true)), (2, some (Blk.mk [D.int IntKind.i64 (0 : Int), D.lst 0 []] true)), (3, some (Blk.mk [D.int IntKind.i64 (0 : Int), D.lst 0 []] true))] 4)) (fun K => by kernel_rfl) ?_
  refine awp_sx prog_ok hP hnt [] [.val (.tup [.d (ib (db 2 (x.natAbs / y.natAbs))), .d (ib (db 2 (x.natAbs % y.natAbs)))])] [some [ib (db 2 x.natAbs)], some [ib (db 2 y.natAbs)]] [2, 3, 4, 5, 6, 7] (by kernel_rfl) (G := fun K => [D.int IntKind.i64 x.sign, ib (db 2 x.natAbs)][1]? = some (ib (db 2 x.natAbs)) ∧ [D.int IntKind.i64 y.sign, ib (db 2 y.natAbs)][1]? = some (ib (db 2 y.natAbs)) ∧ Fn Try.prog 237 [V.d (ib (db 2 x.natAbs)), V.d (ib (db 2 y.natAbs))] [] (V.tup [V.d (ib (db 2 (x.natAbs / y.natAbs))), V.d (ib (db 2 (x.natAbs % y.natAbs)))]) [] ∧ K (St.mk [(2, V.ptr 0 0), (3, V.ptr 1 0), (4, V.ptr 2 0), (5, V.ptr 3 0), (6, V.d (ib (db 2 (x.natAbs / y.natAbs)))), (7, V.d (ib (db 2 (x.natAbs % y.natAbs))))] [(0, some (Blk.mk [D.int IntKind.i64 x.sign, ib (db 2 x.natAbs)] true)), (1, some (Blk.mk [D.int IntKind.i64 y.sign, ib (db 2 y.natAbs)] true)), (2, some (Blk.mk [D.int IntKind.i64 (0 : Int), D.lst 0 []] true)), (3, some (Blk.mk [D.int IntKind.i64 (0 : Int), D.lst 0 []] true))] 14)) (fun K => by kernel_rfl) ?_
  refine ⟨rfl, rfl, hd, ?_⟩
  refine awp_sx prog_ok hP hnt [(20, .int .i64 (x.sign * y.sign))] [.val (.agg (zc (x.tdiv y))), .val (.agg (zc (x.tmod y)))] [some [.int .i64 x.sign], some [.int .i64 y.sign], some [.int .i64 x.sign]] [4, 5] (by kernel_rfl) (G := fun K => [D.int IntKind.i64 x.sign, ib (db 2 x.natAbs)][0]? = some (D.int IntKind.i64 x.sign) ∧ [D.int IntKind.i64 y.sign, ib (db 2 y.natAbs)][0]? = some (D.int IntKind.i64 y.sign) ∧ IntKind.i64.wrap (x.sign * y.sign) = x.sign * y.sign ∧ Fn Try.prog 59 [V.d (D.bool (decide (x.sign * y.sign < (0 : Int)))), V.d (ib (db 2 (x.natAbs / y.natAbs)))] [] (V.agg [D.int IntKind.i64 (x.tdiv y).sign, ib (db 2 (x.tdiv y).natAbs)]) [] ∧ [D.int IntKind.i64 x.sign, ib (db 2 x.natAbs)][0]? = some (D.int IntKind.i64 x.sign) ∧ Fn Try.prog 59 [V.d (D.bool (decide (x.sign < (0 : Int)))), V.d (ib (db 2 (x.natAbs % y.natAbs)))] [] (V.agg [D.int IntKind.i64 (x.tmod y).sign, ib (db 2 (x.tmod y).natAbs)]) [] ∧ 0 + (zc (x.tdiv y)).length ≤ [D.int IntKind.i64 (0 : Int), D.lst 0 []].length ∧ 0 + (zc (x.tmod y)).length ≤ [D.int IntKind.i64 (0 : Int), D.lst 0 []].length ∧ K (St.mk [(4, V.ptr 2 0), (5, V.ptr 3 0)] [(0, some (Blk.mk [D.int IntKind.i64 x.sign, ib (db 2 x.natAbs)] true)), (1, some (Blk.mk [D.int IntKind.i64 y.sign, ib (db 2 y.natAbs)] true)), (2, some (Blk.mk [D.int IntKind.i64 (x.tdiv y).sign, ib (db 2 (x.tdiv y).natAbs)] true)), (3, some (Blk.mk [D.int IntKind.i64 (x.tmod y).sign, ib (db 2 (x.tmod y).natAbs)] true))] 29)) (fun K => by kernel_rfl) ?_
  exact ⟨rfl, rfl, hw, m1, rfl, m2, by simp [zc], by simp [zc], awp_ret ⟨.inl rfl, retCC rfl rfl rfl rfl rfl rfl rfl⟩⟩

/-- Euclid's algorithm -/
theorem zgcd_fn (x y : Int) {K : Nat} (hK : K ≤ 2 ^ 35) (hx : x.natAbs < 2 ^ K) (hy : y.natAbs < 2 ^ K) : Fn Try.prog 128 [.agg (zc x), .agg (zc y)] [] (.agg (zc (Nat.gcd x.natAbs y.natAbs : Nat))) [] := by
  refine fn0 (nt := 25) (res := [.cell 4 31]) Try.func128 rfl (by decide) rfl rfl rfl rfl ?_
  intro Cx hP hnt hl
  have a1 := zabs_fn x (K := K) (by omega) hx
  have a2 := zabs_fn y (K := K) (by omega) hy
  obtain ⟨n, hn⟩ : ∃ n, n = x.natAbs := ⟨_, rfl⟩
  obtain ⟨m, hm⟩ : ∃ m, m = y.natAbs := ⟨_, rfl⟩
  rw [← hn] at hx a1 ⊢
  rw [← hm] at hy a2 ⊢
  refine awp_sx prog_ok hP hnt [] [] [] [2, 3, 4] (by kernel_rfl) (G := fun K => K (St.mk [(2, V.ptr 0 0), (3, V.ptr 1 0), (4, V.ptr 2 0)] [(0, some (Blk.mk [D.int IntKind.i64 x.sign, ib (db 2 x.natAbs)] true)), (1, some (Blk.mk [D.int IntKind.i64 y.sign, ib (db 2 y.natAbs)] true)), (2, some (Blk.mk [D.int IntKind.i64 (0 : Int), D.lst 0 []] true))] 3)) (fun K => by kernel_rfl) ?_
  refine awp_sx prog_ok hP hnt [] [.val (.agg (zc (n : Nat))), .val (.agg (zc (m : Nat)))] [some (zc x), some (zc y)] [4, 5, 6] (by kernel_rfl) (G := fun K => ([D.int IntKind.i64 x.sign, ib (db 2 x.natAbs)][0]? = some (D.int IntKind.i64 x.sign) ∧ [D.int IntKind.i64 x.sign, ib (db 2 x.natAbs)][1]? = some (ib (db 2 x.natAbs))) ∧ Fn Try.prog 205 [V.agg [D.int IntKind.i64 x.sign, ib (db 2 x.natAbs)]] [] (V.agg [D.int IntKind.i64 (↑n : Int).sign, ib (db 2 (↑n : Int).natAbs)]) [] ∧ ([D.int IntKind.i64 y.sign, ib (db 2 y.natAbs)][0]? = some (D.int IntKind.i64 y.sign) ∧ [D.int IntKind.i64 y.sign, ib (db 2 y.natAbs)][1]? = some (ib (db 2 y.natAbs))) ∧ Fn Try.prog 205 [V.agg [D.int IntKind.i64 y.sign, ib (db 2 y.natAbs)]] [] (V.agg [D.int IntKind.i64 (↑m : Int).sign, ib (db 2 (↑m : Int).natAbs)]) [] ∧ 0 + (zc (↑n : Int)).length ≤ (TI.mk (Kind.struct [(0, 1), (1, 1)]) 2 32 [D.int IntKind.i64 (0 : Int), D.lst 0 []]).zero.length ∧ 0 + (zc (↑m : Int)).length ≤ (TI.mk (Kind.struct [(0, 1), (1, 1)]) 2 32 [D.int IntKind.i64 (0 : Int), D.lst 0 []]).zero.length ∧ K (St.mk [(4, V.ptr 2 0), (5, V.ptr 7 0), (6, V.ptr 8 0)] [(0, some (Blk.mk [D.int IntKind.i64 x.sign, ib (db 2 x.natAbs)] true)), (1, some (Blk.mk [D.int IntKind.i64 y.sign, ib (db 2 y.natAbs)] true)), (2, some (Blk.mk [D.int IntKind.i64 (0 : Int), D.lst 0 []] true)), (7, some (Blk.mk [D.int IntKind.i64 (↑n : Int).sign, ib (db 2 (↑n : Int).natAbs)] true)), (8, some (Blk.mk [D.int IntKind.i64 (↑m : Int).sign, ib (db 2 (↑m : Int).natAbs)] true))] 11)) (fun K => by kernel_rfl) ?_
  refine ⟨⟨rfl, rfl⟩, a1, ⟨rfl, rfl⟩, a2, by simp [zc], by simp [zc], ?_⟩
  refine awp_cut (ι := Unit) (fun _ => ⟨[(4, .ptr 0 0), (5, .ptr 1 0)], [(0, some ⟨[.int .i64 0, .lst 0 []], true⟩), (1, some ⟨zc (Nat.gcd n m : Nat), true⟩)], 2⟩) (fun _ => True) ?_ ?_
  · refine awp_block ?_
    refine awp_loop (ι := Nat × Nat) (fun p => ⟨[(4, .ptr 0 0), (5, .ptr 1 0), (6, .ptr 2 0)], [(0, some ⟨[.int .i64 0, .lst 0 []], true⟩), (1, some ⟨zc (p.1 : Nat), true⟩), (2, some ⟨zc (p.2 : Nat), true⟩)], 3⟩)
      (fun p => p.1 < 2 ^ K ∧ p.2 < 2 ^ K ∧ Nat.gcd p.1 p.2 = Nat.gcd n m) (fun p => p.2) (n, m) [(0, 2), (1, 7), (2, 8)] ⟨hx, hy, rfl⟩ ?_ ?_
    · (constructor <;> simp [hl, envOk, memOk, conv, St.get, St.blk, zc])
    intro ⟨a, b⟩ ⟨h1, h2, h3⟩
    simp only at h1 h2 h3 ⊢
    refine awp_seq_k fun K1 hK1 => ?_
    refine awp_sx prog_ok hP hnt [] [] [some [.int .i64 (b : Int).sign]] [4, 5, 6, 15] (by kernel_rfl) (G := fun K => (zc (↑b : Int))[0]? = some (D.int IntKind.i64 (↑b : Int).sign) ∧ K (St.mk [(4, V.ptr 0 0), (5, V.ptr 1 0), (6, V.ptr 2 0), (15, V.d (D.bool ((↑b : Int).sign != (0 : Int))))] [(0, some (Blk.mk [D.int IntKind.i64 (0 : Int), D.lst 0 []] true)), (1, some (Blk.mk [D.int IntKind.i64 (↑a : Int).sign, ib (db 2 (↑a : Int).natAbs)] true)), (2, some (Blk.mk [D.int IntKind.i64 (↑b : Int).sign, ib (db 2 (↑b : Int).natAbs)] true))] 6)) (fun K => by kernel_rfl) ?_
    refine ⟨rfl, awp_cond rfl (fun e => awp_skip (hK1 _ ?_)) (fun e => awp_exit ⟨(), [(0, 0), (1, 1)], trivial, ?_⟩)⟩
    · have hb0 : b ≠ 0 := fun h => by subst h; simp at e
      have hq := zquo_fn (a : Int) (b : Int) hK (by simpa using h1) (by simpa using h2) (by omega)
      rw [show ((a : Int)).tdiv b = ((a / b : Nat) : Int) from rfl, show ((a : Int)).tmod b = ((a % b : Nat) : Int) from rfl] at hq
      refine awp_block ?_
      refine awp_sx prog_ok hP hnt [] [.val (.tup [.agg (zc (a / b : Nat)), .agg (zc (a % b : Nat))])] [some (zc (a : Nat)), some (zc (b : Nat))] [4, 5, 6, 8] (by kernel_rfl) (G := fun K => ([D.int IntKind.i64 (↑a : Int).sign, ib (db 2 (↑a : Int).natAbs)][0]? = some (D.int IntKind.i64 (↑a : Int).sign) ∧ [D.int IntKind.i64 (↑a : Int).sign, ib (db 2 (↑a : Int).natAbs)][1]? = some (ib (db 2 (↑a : Int).natAbs))) ∧ ([D.int IntKind.i64 (↑b : Int).sign, ib (db 2 (↑b : Int).natAbs)][0]? = some (D.int IntKind.i64 (↑b : Int).sign) ∧ [D.int IntKind.i64 (↑b : Int).sign, ib (db 2 (↑b : Int).natAbs)][1]? = some (ib (db 2 (↑b : Int).natAbs))) ∧ Fn Try.prog 199 [V.agg [D.int IntKind.i64 (↑a : Int).sign, ib (db 2 (↑a : Int).natAbs)], V.agg [D.int IntKind.i64 (↑b : Int).sign, ib (db 2 (↑b : Int).natAbs)]] [] (V.tup [V.agg [D.int IntKind.i64 (↑(a / b) : Int).sign, ib (db 2 (↑(a / b) : Int).natAbs)], V.agg [D.int IntKind.i64 (↑(a % b) : Int).sign, ib (db 2 (↑(a % b) : Int).natAbs)]]) [] ∧ 0 + (zc (↑(a / b) : Int)).length ≤ (TI.mk (Kind.struct [(0, 1), (1, 1)]) 2 32 [D.int IntKind.i64 (0 : Int), D.lst 0 []]).zero.length ∧ 0 + (zc (↑(a % b) : Int)).length ≤ (TI.mk (Kind.struct [(0, 1), (1, 1)]) 2 32 [D.int IntKind.i64 (0 : Int), D.lst 0 []]).zero.length ∧ K (St.mk [(4, V.ptr 0 0), (5, V.ptr 1 0), (6, V.ptr 2 0), (8, V.ptr 13 0)] [(0, some (Blk.mk [D.int IntKind.i64 (0 : Int), D.lst 0 []] true)), (1, some (Blk.mk [D.int IntKind.i64 (↑a : Int).sign, ib (db 2 (↑a : Int).natAbs)] true)), (2, some (Blk.mk [D.int IntKind.i64 (↑b : Int).sign, ib (db 2 (↑b : Int).natAbs)] true)), (12, some (Blk.mk [D.int IntKind.i64 (↑(a / b) : Int).sign, ib (db 2 (↑(a / b) : Int).natAbs)] true)), (13, some (Blk.mk [D.int IntKind.i64 (↑(a % b) : Int).sign, ib (db 2 (↑(a % b) : Int).natAbs)] true))] 16)) (fun K => by kernel_rfl) ?_
      refine ⟨⟨rfl, rfl⟩, ⟨rfl, rfl⟩, hq, by simp [zc], by simp [zc], ?_⟩
      refine awp_sx prog_ok hP hnt [] [] [some (zc (b : Nat))] [4, 5, 6, 8] (by kernel_rfl) (G := fun K => ([D.int IntKind.i64 (↑b : Int).sign, ib (db 2 (↑b : Int).natAbs)][0]? = some (D.int IntKind.i64 (↑b : Int).sign) ∧ [D.int IntKind.i64 (↑b : Int).sign, ib (db 2 (↑b : Int).natAbs)][1]? = some (ib (db 2 (↑b : Int).natAbs))) ∧ 0 + (zc (↑b : Int)).length ≤ [D.int IntKind.i64 (↑a : Int).sign, ib (db 2 (↑a : Int).natAbs)].length ∧ K (St.mk [(4, V.ptr 0 0), (5, V.ptr 1 0), (6, V.ptr 2 0), (8, V.ptr 13 0)] [(0, some (Blk.mk [D.int IntKind.i64 (0 : Int), D.lst 0 []] true)), (1, some (Blk.mk [D.int IntKind.i64 (↑b : Int).sign, ib (db 2 (↑b : Int).natAbs)] true)), (2, some (Blk.mk [D.int IntKind.i64 (↑b : Int).sign, ib (db 2 (↑b : Int).natAbs)] true)), (12, some (Blk.mk [D.int IntKind.i64 (↑(a / b) : Int).sign, ib (db 2 (↑(a / b) : Int).natAbs)] true)), (13, some (Blk.mk [D.int IntKind.i64 (↑(a % b) : Int).sign, ib (db 2 (↑(a % b) : Int).natAbs)] true))] 18)) (fun K => by kernel_rfl) ?_
      refine ⟨⟨rfl, rfl⟩, by simp [zc], ?_⟩
      refine awp_x prog_ok hP hnt [] [] [some (zc (a % b : Nat))] [4, 5, 6] (by kernel_rfl) (G := fun K => ([D.int IntKind.i64 (↑(a % b) : Int).sign, ib (db 2 (↑(a % b) : Int).natAbs)][0]? = some (D.int IntKind.i64 (↑(a % b) : Int).sign) ∧ [D.int IntKind.i64 (↑(a % b) : Int).sign, ib (db 2 (↑(a % b) : Int).natAbs)][1]? = some (ib (db 2 (↑(a % b) : Int).natAbs))) ∧ 0 + (zc (↑(a % b) : Int)).length ≤ [D.int IntKind.i64 (↑b : Int).sign, ib (db 2 (↑b : Int).natAbs)].length ∧ K (St.mk [(4, V.ptr 0 0), (5, V.ptr 1 0), (6, V.ptr 2 0)] [(0, some (Blk.mk [D.int IntKind.i64 (0 : Int), D.lst 0 []] true)), (1, some (Blk.mk [D.int IntKind.i64 (↑b : Int).sign, ib (db 2 (↑b : Int).natAbs)] true)), (2, some (Blk.mk [D.int IntKind.i64 (↑(a % b) : Int).sign, ib (db 2 (↑(a % b) : Int).natAbs)] true)), (12, some (Blk.mk [D.int IntKind.i64 (↑(a / b) : Int).sign, ib (db 2 (↑(a / b) : Int).natAbs)] true)), (13, some (Blk.mk [D.int IntKind.i64 (↑(a % b) : Int).sign, ib (db 2 (↑(a % b) : Int).natAbs)] true))] 20)) (fun K => by kernel_rfl) ?_
      refine ⟨⟨rfl, rfl⟩, by simp [zc], (b, a % b), [(0, 0), (1, 1), (2, 2)], ⟨⟨h2, Nat.lt_of_le_of_lt (Nat.mod_le _ _) h1, ?_⟩, Nat.mod_lt _ (by omega)⟩, ?_⟩
      · simp only; rw [← h3, Nat.gcd_comm b, ← Nat.gcd_rec, Nat.gcd_comm]
      · (constructor <;> simp [hl, envOk, memOk, conv, St.get, St.blk, zc, setCells])
    · have hb0 : b = 0 := by
        apply Classical.byContradiction; intro h
        have : (b : Int).sign = 1 := Int.sign_eq_one_of_pos (by omega)
        rw [this] at e; simp at e
      subst hb0
      rw [Nat.gcd_zero_right] at h3
      rw [← h3]
      (constructor <;> simp [hl, envOk, memOk, conv, St.get, St.blk, zc])
  intro _ _
  refine awp_sx prog_ok hP hnt [] [] [some (zc (Nat.gcd n m : Nat))] [4] (by kernel_rfl) (G := fun K => ((zc (↑(n.gcd m) : Int))[0]? = some (D.int IntKind.i64 (↑(n.gcd m) : Int).sign) ∧ (zc (↑(n.gcd m) : Int))[1]? = some (ib (db 2 (↑(n.gcd m) : Int).natAbs))) ∧ 0 + (zc (↑(n.gcd m) : Int)).length ≤ [D.int IntKind.i64 (0 : Int), D.lst 0 []].length ∧ K (St.mk [(4, V.ptr 0 0)] [(0, some (Blk.mk [D.int IntKind.i64 (↑(n.gcd m) : Int).sign, ib (db 2 (↑(n.gcd m) : Int).natAbs)] true)), (1, some (Blk.mk [D.int IntKind.i64 (↑(n.gcd m) : Int).sign, ib (db 2 (↑(n.gcd m) : Int).natAbs)] true))] 4)) (fun K => by kernel_rfl) ?_
  exact ⟨⟨rfl, rfl⟩, by simp [zc], awp_ret ⟨.inl rfl, retC (l := true) rfl rfl rfl rfl⟩⟩
end Go.Abs

set_option linter.unusedVariables false
set_option linter.unusedSimpArgs false
namespace Go.Abs
open Go Go.Proofs Poly
set_option maxRecDepth 100000

/-! ### The reference's fractions -/
def qz (n d : Int) : List D := zc n ++ zc d
theorem qof_fn (s : Bool) (l m : List Nat) (dl : Dg l) (dm : Dg m) (hl1 : l.length ≤ 2 ^ 30) (hm1 : m.length ≤ 2 ^ 30) :
    Fn Try.prog 91 [.d (.bool s), .d (du l), .d (du m)] [] (.agg (qz (if val m = 0 then 0 else ival s l) (if val m = 0 then 1 else val m))) [] := by
  refine fn0 (nt := 20) (res := [.cell 6 81]) Try.func91 rfl (by decide) rfl rfl rfl rfl ?_
  intro Cx hP hnt hl
  have h1 := zof_fn false m dm (by omega)
  have h2 := zof_fn s l dl (by omega)
  rw [show ival false m = (val m : Int) from rfl] at h1
  have h3 := zsmall_fn 1 (by decide)
  refine awp_sx prog_ok hP hnt [] [] [] [0, 1, 2, 6] (by kernel_rfl) (G := fun K => K (St.mk [(0, V.d (D.bool s)), (1, V.d (du l)), (2, V.d (du m)), (6, V.ptr 0 0)] [(0, some (Blk.mk [D.int IntKind.i64 (0 : Int), D.lst 0 [], D.int IntKind.i64 (0 : Int), D.lst 0 []] true))] 1)) (fun K => by kernel_rfl) ?_
  refine awp_sx prog_ok hP hnt [] [.val (.agg (zc (val m : Nat)))] [] [0, 1, 6, 7] (by kernel_rfl) (G := fun K => Fn Try.prog 159 [V.d (D.bool false), V.d (du m)] [] (V.agg [D.int IntKind.i64 (↑(val m) : Int).sign, ib (db 2 (↑(val m) : Int).natAbs)]) [] ∧ 0 + (zc (↑(val m) : Int)).length ≤ (TI.mk (Kind.struct [(0, 1), (1, 1)]) 2 32 [D.int IntKind.i64 (0 : Int), D.lst 0 []]).zero.length ∧ K (St.mk [(0, V.d (D.bool s)), (1, V.d (du l)), (6, V.ptr 0 0), (7, V.ptr 3 0)] [(0, some (Blk.mk [D.int IntKind.i64 (0 : Int), D.lst 0 [], D.int IntKind.i64 (0 : Int), D.lst 0 []] true)), (3, some (Blk.mk [D.int IntKind.i64 (↑(val m) : Int).sign, ib (db 2 (↑(val m) : Int).natAbs)] true))] 5)) (fun K => by kernel_rfl) ?_
  refine ⟨h1, by simp [zc], ?_⟩
  refine awp_seq_k fun K hK => ?_
  refine awp_sx prog_ok hP hnt [] [] [some [.int .i64 (val m : Int).sign]] [0, 1, 6, 7, 12] (by kernel_rfl) (G := fun K => [D.int IntKind.i64 (↑(val m) : Int).sign, ib (db 2 (↑(val m) : Int).natAbs)][0]? = some (D.int IntKind.i64 (↑(val m) : Int).sign) ∧ K (St.mk [(0, V.d (D.bool s)), (1, V.d (du l)), (6, V.ptr 0 0), (7, V.ptr 3 0), (12, V.d (D.bool ((↑(val m) : Int).sign == (0 : Int))))] [(0, some (Blk.mk [D.int IntKind.i64 (0 : Int), D.lst 0 [], D.int IntKind.i64 (0 : Int), D.lst 0 []] true)), (3, some (Blk.mk [D.int IntKind.i64 (↑(val m) : Int).sign, ib (db 2 (↑(val m) : Int).natAbs)] true))] 8)) (fun K => by kernel_rfl) ?_
  refine ⟨rfl, awp_cond rfl (fun e => ?_) (fun e => awp_skip (hK _ ?_))⟩
  · have h0 : val m = 0 := by
      have := eq_of_beq e
      rw [Int.sign_eq_zero_iff_zero] at this
      omega
    rw [if_pos h0, if_pos h0]
    refine awp_sx prog_ok hP hnt [] [.val (.agg (zc 1))] [] [6] (by kernel_rfl) (G := fun K => Fn Try.prog 41 [V.d (D.int IntKind.i64 (1 : Int))] [] (V.agg [D.int IntKind.i64 (Int.sign (1 : Int)), ib (db 2 (Int.natAbs (1 : Int)))]) [] ∧ 4 ≤ [D.int IntKind.i64 (0 : Int), D.lst 0 [], D.int IntKind.i64 (0 : Int), D.lst 0 []].length ∧ K (St.mk [(6, V.ptr 0 0)] [(0, some (Blk.mk [D.int IntKind.i64 (0 : Int), D.lst 0 [], D.int IntKind.i64 (Int.sign (1 : Int)), ib (db 2 (Int.natAbs (1 : Int)))] true)), (3, some (Blk.mk [D.int IntKind.i64 (↑(val m) : Int).sign, ib (db 2 (↑(val m) : Int).natAbs)] true))] 11)) (fun K => by kernel_rfl) ?_
    have ez : qz 0 1 = [.int .i64 0, .lst 0 []] ++ zc 1 := by unfold qz; rw [zc_zero]
    rw [ez]
    exact ⟨h3, by simp [zc, setCells_len], awp_ret ⟨.inl rfl, retC (l := true) rfl rfl rfl rfl⟩⟩
  · have h0 : val m ≠ 0 := fun h => by rw [h] at e; simp at e
    rw [if_neg h0, if_neg h0]
    refine awp_sx prog_ok hP hnt [] [.val (.agg (zc (ival s l)))] [some (zc (val m : Nat))] [6] (by kernel_rfl) (G := fun K => Fn Try.prog 159 [V.d (D.bool s), V.d (du l)] [] (V.agg [D.int IntKind.i64 (ival s l).sign, ib (db 2 (ival s l).natAbs)]) [] ∧ ([D.int IntKind.i64 (↑(val m) : Int).sign, ib (db 2 (↑(val m) : Int).natAbs)][0]? = some (D.int IntKind.i64 (↑(val m) : Int).sign) ∧ [D.int IntKind.i64 (↑(val m) : Int).sign, ib (db 2 (↑(val m) : Int).natAbs)][1]? = some (ib (db 2 (↑(val m) : Int).natAbs))) ∧ 0 + (setCells (setCells (TI.mk (Kind.struct [(0, 2), (2, 2)]) 4 64 [D.int IntKind.i64 (0 : Int), D.lst 0 [], D.int IntKind.i64 (0 : Int), D.lst 0 []]).zero 0 (zc (ival s l))) 2 (zc (↑(val m) : Int))).length ≤ [D.int IntKind.i64 (0 : Int), D.lst 0 [], D.int IntKind.i64 (0 : Int), D.lst 0 []].length ∧ K (St.mk [(6, V.ptr 0 0)] [(0, some (Blk.mk [D.int IntKind.i64 (ival s l).sign, ib (db 2 (ival s l).natAbs), D.int IntKind.i64 (↑(val m) : Int).sign, ib (db 2 (↑(val m) : Int).natAbs)] true)), (3, some (Blk.mk [D.int IntKind.i64 (↑(val m) : Int).sign, ib (db 2 (↑(val m) : Int).natAbs)] true))] 14)) (fun K => by kernel_rfl) ?_
    exact ⟨h2, ⟨rfl, rfl⟩, by simp [zc, setCells_len], awp_ret ⟨.inl rfl, retC (l := true) rfl rfl rfl rfl⟩⟩

theorem qnumber_fn (n : Int) (h : n.natAbs ≤ 2 ^ 62) : Fn Try.prog 223 [.d (.int .i64 n)] [] (.agg (qz n 1)) [] := by
  refine fn0 (nt := 7) (res := [.cell 2 81]) Try.func223 rfl (by decide) rfl rfl rfl rfl ?_
  intro Cx hP hnt hl
  have h1 := zsmall_fn n h
  have h3 := zsmall_fn 1 (by decide)
  refine awp_sx prog_ok hP hnt [] [] [] [0, 2] (by kernel_rfl) (G := fun K => K (St.mk [(0, V.d (D.int IntKind.i64 n)), (2, V.ptr 0 0)] [(0, some (Blk.mk [D.int IntKind.i64 (0 : Int), D.lst 0 [], D.int IntKind.i64 (0 : Int), D.lst 0 []] true))] 1)) (fun K => by kernel_rfl) ?_
  refine awp_sx prog_ok hP hnt [] [.val (.agg (zc n)), .val (.agg (zc 1))] [] [2] (by kernel_rfl) (G := fun K => Fn Try.prog 41 [V.d (D.int IntKind.i64 n)] [] (V.agg [D.int IntKind.i64 n.sign, ib (db 2 n.natAbs)]) [] ∧ Fn Try.prog 41 [V.d (D.int IntKind.i64 (1 : Int))] [] (V.agg [D.int IntKind.i64 (Int.sign (1 : Int)), ib (db 2 (Int.natAbs (1 : Int)))]) [] ∧ 0 + (setCells (setCells (TI.mk (Kind.struct [(0, 2), (2, 2)]) 4 64 [D.int IntKind.i64 (0 : Int), D.lst 0 [], D.int IntKind.i64 (0 : Int), D.lst 0 []]).zero 0 (zc n)) 2 (zc (1 : Int))).length ≤ [D.int IntKind.i64 (0 : Int), D.lst 0 [], D.int IntKind.i64 (0 : Int), D.lst 0 []].length ∧ K (St.mk [(2, V.ptr 0 0)] [(0, some (Blk.mk [D.int IntKind.i64 n.sign, ib (db 2 n.natAbs), D.int IntKind.i64 (Int.sign (1 : Int)), ib (db 2 (Int.natAbs (1 : Int)))] true))] 6)) (fun K => by kernel_rfl) ?_
  exact ⟨h1, h3, by simp [zc, setCells_len], awp_ret ⟨.inl rfl, retC (l := true) rfl rfl rfl rfl⟩⟩

theorem qmul_fn (x y p q : Int) {K : Nat} (hK : K ≤ 2 ^ 36) (hx : x.natAbs < 2 ^ K) (hy : y.natAbs < 2 ^ K) (hp : p.natAbs < 2 ^ K) (hq : q.natAbs < 2 ^ K) :
    Fn Try.prog 225 [.agg (qz x p), .agg (qz y q)] [] (.agg (qz (x * y) (p * q))) [] := by
  refine fn0 (nt := 16) (res := [.cell 4 81]) Try.func225 rfl (by decide) rfl rfl rfl rfl ?_
  intro Cx hP hnt hl
  have h1 := zmul_fn x y hK hx hy
  have h2 := zmul_fn p q hK hp hq
  refine awp_sx prog_ok hP hnt [] [] [] [2, 3, 4] (by kernel_rfl) (G := fun K => K (St.mk [(2, V.ptr 0 0), (3, V.ptr 1 0), (4, V.ptr 2 0)] [(0, some (Blk.mk [D.int IntKind.i64 x.sign, ib (db 2 x.natAbs), D.int IntKind.i64 p.sign, ib (db 2 p.natAbs)] true)), (1, some (Blk.mk [D.int IntKind.i64 y.sign, ib (db 2 y.natAbs), D.int IntKind.i64 q.sign, ib (db 2 q.natAbs)] true)), (2, some (Blk.mk [D.int IntKind.i64 (0 : Int), D.lst 0 [], D.int IntKind.i64 (0 : Int), D.lst 0 []] true))] 3)) (fun K => by kernel_rfl) ?_
  refine awp_sx prog_ok hP hnt [] [.val (.agg (zc (x * y))), .val (.agg (zc (p * q)))] [some (zc x), some (zc y), some (zc p), some (zc q)] [4] (by kernel_rfl) (G := fun K => ([D.int IntKind.i64 x.sign, ib (db 2 x.natAbs), D.int IntKind.i64 p.sign, ib (db 2 p.natAbs)][0]? = some (D.int IntKind.i64 x.sign) ∧ [D.int IntKind.i64 x.sign, ib (db 2 x.natAbs), D.int IntKind.i64 p.sign, ib (db 2 p.natAbs)][1]? = some (ib (db 2 x.natAbs))) ∧ ([D.int IntKind.i64 y.sign, ib (db 2 y.natAbs), D.int IntKind.i64 q.sign, ib (db 2 q.natAbs)][0]? = some (D.int IntKind.i64 y.sign) ∧ [D.int IntKind.i64 y.sign, ib (db 2 y.natAbs), D.int IntKind.i64 q.sign, ib (db 2 q.natAbs)][1]? = some (ib (db 2 y.natAbs))) ∧ Fn Try.prog 162 [V.agg [D.int IntKind.i64 x.sign, ib (db 2 x.natAbs)], V.agg [D.int IntKind.i64 y.sign, ib (db 2 y.natAbs)]] [] (V.agg [D.int IntKind.i64 (x * y).sign, ib (db 2 (x * y).natAbs)]) [] ∧ ([D.int IntKind.i64 x.sign, ib (db 2 x.natAbs), D.int IntKind.i64 p.sign, ib (db 2 p.natAbs)][2]? = some (D.int IntKind.i64 p.sign) ∧ [D.int IntKind.i64 x.sign, ib (db 2 x.natAbs), D.int IntKind.i64 p.sign, ib (db 2 p.natAbs)][3]? = some (ib (db 2 p.natAbs))) ∧ ([D.int IntKind.i64 y.sign, ib (db 2 y.natAbs), D.int IntKind.i64 q.sign, ib (db 2 q.natAbs)][2]? = some (D.int IntKind.i64 q.sign) ∧ [D.int IntKind.i64 y.sign, ib (db 2 y.natAbs), D.int IntKind.i64 q.sign, ib (db 2 q.natAbs)][3]? = some (ib (db 2 q.natAbs))) ∧ Fn Try.prog 162 [V.agg [D.int IntKind.i64 p.sign, ib (db 2 p.natAbs)], V.agg [D.int IntKind.i64 q.sign, ib (db 2 q.natAbs)]] [] (V.agg [D.int IntKind.i64 (p * q).sign, ib (db 2 (p * q).natAbs)]) [] ∧ 0 + (setCells (setCells (TI.mk (Kind.struct [(0, 2), (2, 2)]) 4 64 [D.int IntKind.i64 (0 : Int), D.lst 0 [], D.int IntKind.i64 (0 : Int), D.lst 0 []]).zero 0 (zc (x * y))) 2 (zc (p * q))).length ≤ [D.int IntKind.i64 (0 : Int), D.lst 0 [], D.int IntKind.i64 (0 : Int), D.lst 0 []].length ∧ K (St.mk [(4, V.ptr 2 0)] [(0, some (Blk.mk [D.int IntKind.i64 x.sign, ib (db 2 x.natAbs), D.int IntKind.i64 p.sign, ib (db 2 p.natAbs)] true)), (1, some (Blk.mk [D.int IntKind.i64 y.sign, ib (db 2 y.natAbs), D.int IntKind.i64 q.sign, ib (db 2 q.natAbs)] true)), (2, some (Blk.mk [D.int IntKind.i64 (x * y).sign, ib (db 2 (x * y).natAbs), D.int IntKind.i64 (p * q).sign, ib (db 2 (p * q).natAbs)] true))] 15)) (fun K => by kernel_rfl) ?_
  exact ⟨⟨rfl, rfl⟩, ⟨rfl, rfl⟩, h1, ⟨rfl, rfl⟩, ⟨rfl, rfl⟩, h2, by simp [zc, setCells_len], awp_ret ⟨.inl rfl, retC (l := true) rfl rfl rfl rfl⟩⟩

theorem qadd_fn (x y p q : Int) {K : Nat} (hK : K + K ≤ 2 ^ 36) (hx : x.natAbs < 2 ^ K) (hy : y.natAbs < 2 ^ K) (hp : p.natAbs < 2 ^ K) (hq : q.natAbs < 2 ^ K) :
    Fn Try.prog 224 [.agg (qz x p), .agg (qz y q)] [] (.agg (qz (x * q + y * p) (p * q))) [] := by
  refine fn0 (nt := 24) (res := [.cell 4 81]) Try.func224 rfl (by decide) rfl rfl rfl rfl ?_
  intro Cx hP hnt hl
  have h1 := zmul_fn x q (K := K) (by omega) hx hq
  have h2 := zmul_fn y p (K := K) (by omega) hy hp
  have h3 := zmul_fn p q (K := K) (by omega) hp hq
  have b1 : (x * q).natAbs < 2 ^ (K + K) := by rw [Int.natAbs_mul]; exact mul_lt2 hx hq
  have b2 : (y * p).natAbs < 2 ^ (K + K) := by rw [Int.natAbs_mul]; exact mul_lt2 hy hp
  have h4 := zadd_fn (x * q) (y * p) hK b1 b2
  refine awp_sx prog_ok hP hnt [] [] [] [2, 3, 4] (by kernel_rfl) (G := fun K => K (St.mk [(2, V.ptr 0 0), (3, V.ptr 1 0), (4, V.ptr 2 0)] [(0, some (Blk.mk [D.int IntKind.i64 x.sign, ib (db 2 x.natAbs), D.int IntKind.i64 p.sign, ib (db 2 p.natAbs)] true)), (1, some (Blk.mk [D.int IntKind.i64 y.sign, ib (db 2 y.natAbs), D.int IntKind.i64 q.sign, ib (db 2 q.natAbs)] true)), (2, some (Blk.mk [D.int IntKind.i64 (0 : Int), D.lst 0 [], D.int IntKind.i64 (0 : Int), D.lst 0 []] true))] 3)) (fun K => by kernel_rfl) ?_
  refine awp_sx prog_ok hP hnt [] [.val (.agg (zc (x * q))), .val (.agg (zc (y * p))), .val (.agg (zc (x * q + y * p)))] [some (zc x), some (zc q), some (zc y), some (zc p)] [2, 3, 4, 5] (by kernel_rfl) (G := fun K => ([D.int IntKind.i64 x.sign, ib (db 2 x.natAbs), D.int IntKind.i64 p.sign, ib (db 2 p.natAbs)][0]? = some (D.int IntKind.i64 x.sign) ∧ [D.int IntKind.i64 x.sign, ib (db 2 x.natAbs), D.int IntKind.i64 p.sign, ib (db 2 p.natAbs)][1]? = some (ib (db 2 x.natAbs))) ∧ ([D.int IntKind.i64 y.sign, ib (db 2 y.natAbs), D.int IntKind.i64 q.sign, ib (db 2 q.natAbs)][2]? = some (D.int IntKind.i64 q.sign) ∧ [D.int IntKind.i64 y.sign, ib (db 2 y.natAbs), D.int IntKind.i64 q.sign, ib (db 2 q.natAbs)][3]? = some (ib (db 2 q.natAbs))) ∧ Fn Try.prog 162 [V.agg [D.int IntKind.i64 x.sign, ib (db 2 x.natAbs)], V.agg [D.int IntKind.i64 q.sign, ib (db 2 q.natAbs)]] [] (V.agg [D.int IntKind.i64 (x * q).sign, ib (db 2 (x * q).natAbs)]) [] ∧ ([D.int IntKind.i64 y.sign, ib (db 2 y.natAbs), D.int IntKind.i64 q.sign, ib (db 2 q.natAbs)][0]? = some (D.int IntKind.i64 y.sign) ∧ [D.int IntKind.i64 y.sign, ib (db 2 y.natAbs), D.int IntKind.i64 q.sign, ib (db 2 q.natAbs)][1]? = some (ib (db 2 y.natAbs))) ∧ ([D.int IntKind.i64 x.sign, ib (db 2 x.natAbs), D.int IntKind.i64 p.sign, ib (db 2 p.natAbs)][2]? = some (D.int IntKind.i64 p.sign) ∧ [D.int IntKind.i64 x.sign, ib (db 2 x.natAbs), D.int IntKind.i64 p.sign, ib (db 2 p.natAbs)][3]? = some (ib (db 2 p.natAbs))) ∧ Fn Try.prog 162 [V.agg [D.int IntKind.i64 y.sign, ib (db 2 y.natAbs)], V.agg [D.int IntKind.i64 p.sign, ib (db 2 p.natAbs)]] [] (V.agg [D.int IntKind.i64 (y * p).sign, ib (db 2 (y * p).natAbs)]) [] ∧ Fn Try.prog 169 [V.agg [D.int IntKind.i64 (x * q).sign, ib (db 2 (x * q).natAbs)], V.agg [D.int IntKind.i64 (y * p).sign, ib (db 2 (y * p).natAbs)]] [] (V.agg [D.int IntKind.i64 (x * q + y * p).sign, ib (db 2 (x * q + y * p).natAbs)]) [] ∧ 0 + (zc (x * q + y * p)).length ≤ (TI.mk (Kind.struct [(0, 1), (1, 1)]) 2 32 [D.int IntKind.i64 (0 : Int), D.lst 0 []]).zero.length ∧ K (St.mk [(2, V.ptr 0 0), (3, V.ptr 1 0), (4, V.ptr 2 0), (5, V.ptr 14 0)] [(0, some (Blk.mk [D.int IntKind.i64 x.sign, ib (db 2 x.natAbs), D.int IntKind.i64 p.sign, ib (db 2 p.natAbs)] true)), (1, some (Blk.mk [D.int IntKind.i64 y.sign, ib (db 2 y.natAbs), D.int IntKind.i64 q.sign, ib (db 2 q.natAbs)] true)), (2, some (Blk.mk [D.int IntKind.i64 (0 : Int), D.lst 0 [], D.int IntKind.i64 (0 : Int), D.lst 0 []] true)), (14, some (Blk.mk [D.int IntKind.i64 (x * q + y * p).sign, ib (db 2 (x * q + y * p).natAbs)] true))] 16)) (fun K => by kernel_rfl) ?_
  refine ⟨⟨rfl, rfl⟩, ⟨rfl, rfl⟩, h1, ⟨rfl, rfl⟩, ⟨rfl, rfl⟩, h2, h4, by simp [zc], ?_⟩
  refine awp_sx prog_ok hP hnt [] [.val (.agg (zc (p * q)))] [some (zc (x * q + y * p)), some (zc p), some (zc q)] [4] (by kernel_rfl) (G := fun K => ([D.int IntKind.i64 (x * q + y * p).sign, ib (db 2 (x * q + y * p).natAbs)][0]? = some (D.int IntKind.i64 (x * q + y * p).sign) ∧ [D.int IntKind.i64 (x * q + y * p).sign, ib (db 2 (x * q + y * p).natAbs)][1]? = some (ib (db 2 (x * q + y * p).natAbs))) ∧ ([D.int IntKind.i64 x.sign, ib (db 2 x.natAbs), D.int IntKind.i64 p.sign, ib (db 2 p.natAbs)][2]? = some (D.int IntKind.i64 p.sign) ∧ [D.int IntKind.i64 x.sign, ib (db 2 x.natAbs), D.int IntKind.i64 p.sign, ib (db 2 p.natAbs)][3]? = some (ib (db 2 p.natAbs))) ∧ ([D.int IntKind.i64 y.sign, ib (db 2 y.natAbs), D.int IntKind.i64 q.sign, ib (db 2 q.natAbs)][2]? = some (D.int IntKind.i64 q.sign) ∧ [D.int IntKind.i64 y.sign, ib (db 2 y.natAbs), D.int IntKind.i64 q.sign, ib (db 2 q.natAbs)][3]? = some (ib (db 2 q.natAbs))) ∧ Fn Try.prog 162 [V.agg [D.int IntKind.i64 p.sign, ib (db 2 p.natAbs)], V.agg [D.int IntKind.i64 q.sign, ib (db 2 q.natAbs)]] [] (V.agg [D.int IntKind.i64 (p * q).sign, ib (db 2 (p * q).natAbs)]) [] ∧ 0 + (setCells (setCells (TI.mk (Kind.struct [(0, 2), (2, 2)]) 4 64 [D.int IntKind.i64 (0 : Int), D.lst 0 [], D.int IntKind.i64 (0 : Int), D.lst 0 []]).zero 0 (zc (x * q + y * p))) 2 (zc (p * q))).length ≤ [D.int IntKind.i64 (0 : Int), D.lst 0 [], D.int IntKind.i64 (0 : Int), D.lst 0 []].length ∧ K (St.mk [(4, V.ptr 2 0)] [(0, some (Blk.mk [D.int IntKind.i64 x.sign, ib (db 2 x.natAbs), D.int IntKind.i64 p.sign, ib (db 2 p.natAbs)] true)), (1, some (Blk.mk [D.int IntKind.i64 y.sign, ib (db 2 y.natAbs), D.int IntKind.i64 q.sign, ib (db 2 q.natAbs)] true)), (2, some (Blk.mk [D.int IntKind.i64 (x * q + y * p).sign, ib (db 2 (x * q + y * p).natAbs), D.int IntKind.i64 (p * q).sign, ib (db 2 (p * q).natAbs)] true)), (14, some (Blk.mk [D.int IntKind.i64 (x * q + y * p).sign, ib (db 2 (x * q + y * p).natAbs)] true))] 24)) (fun K => by kernel_rfl) ?_
  exact ⟨⟨rfl, rfl⟩, ⟨rfl, rfl⟩, ⟨rfl, rfl⟩, h3, by simp [zc, setCells_len], awp_ret ⟨.inl rfl, retC (l := true) rfl rfl rfl rfl⟩⟩

theorem qreduced_fn (x : Int) (d : Nat) (d0 : d ≠ 0) {K : Nat} (hK : K ≤ 2 ^ 35) (hx : x.natAbs < 2 ^ K) (hd : d < 2 ^ K) : Fn Try.prog 179 [.agg (qz x d)] [] (.agg (qz (mkRat x d).num (mkRat x d).den)) [] := by
  refine fn0 (nt := 30) (res := [.cell 2 81]) Try.func179 rfl (by decide) rfl rfl rfl rfl ?_
  intro Cx hP hnt hl
  have hg := zgcd_fn x (d : Int) hK hx (by simpa using hd)
  rw [Int.natAbs_natCast] at hg
  have hg0 : 0 < Nat.gcd x.natAbs d := Nat.gcd_pos_of_pos_right _ (Nat.pos_of_ne_zero d0)
  have hgd : Nat.gcd x.natAbs d ≤ d := Nat.le_of_dvd (Nat.pos_of_ne_zero d0) (Nat.gcd_dvd_right _ _)
  have e1 : x.tdiv (Nat.gcd x.natAbs d : Nat) = (mkRat x d).num := by rw [← rnum_mk]; unfold rnum; rw [if_neg d0]
  have e2 : ((d : Int)).tdiv (Nat.gcd x.natAbs d : Nat) = ((mkRat x d).den : Nat) := by rw [← rden_mk]; unfold rden; rw [if_neg d0]; rfl
  obtain ⟨g, hge⟩ : ∃ g, g = Nat.gcd x.natAbs d := ⟨_, rfl⟩
  rw [← hge] at hg hg0 hgd e1 e2
  have q1 := zquo_fn x (g : Int) hK hx (by rw [Int.natAbs_natCast]; omega) (by omega)
  have q2 := zquo_fn (d : Int) (g : Int) hK (by simpa using hd) (by rw [Int.natAbs_natCast]; omega) (by omega)
  rw [e1] at q1
  rw [e2] at q2
  refine awp_sx prog_ok hP hnt [] [] [] [1, 2] (by kernel_rfl) (G := fun K => K (St.mk [(1, V.ptr 0 0), (2, V.ptr 1 0)] [(0, some (Blk.mk [D.int IntKind.i64 x.sign, ib (db 2 x.natAbs), D.int IntKind.i64 (↑d : Int).sign, ib (db 2 (↑d : Int).natAbs)] true)), (1, some (Blk.mk [D.int IntKind.i64 (0 : Int), D.lst 0 [], D.int IntKind.i64 (0 : Int), D.lst 0 []] true))] 2)) (fun K => by kernel_rfl) ?_
  refine awp_sx prog_ok hP hnt [] [.val (.agg (zc (g : Nat)))] [some (zc x), some (zc (d : Nat))] [1, 2, 3] (by kernel_rfl) (G := fun K => ([D.int IntKind.i64 x.sign, ib (db 2 x.natAbs), D.int IntKind.i64 (↑d : Int).sign, ib (db 2 (↑d : Int).natAbs)][0]? = some (D.int IntKind.i64 x.sign) ∧ [D.int IntKind.i64 x.sign, ib (db 2 x.natAbs), D.int IntKind.i64 (↑d : Int).sign, ib (db 2 (↑d : Int).natAbs)][1]? = some (ib (db 2 x.natAbs))) ∧ ([D.int IntKind.i64 x.sign, ib (db 2 x.natAbs), D.int IntKind.i64 (↑d : Int).sign, ib (db 2 (↑d : Int).natAbs)][2]? = some (D.int IntKind.i64 (↑d : Int).sign) ∧ [D.int IntKind.i64 x.sign, ib (db 2 x.natAbs), D.int IntKind.i64 (↑d : Int).sign, ib (db 2 (↑d : Int).natAbs)][3]? = some (ib (db 2 (↑d : Int).natAbs))) ∧ Fn Try.prog 128 [V.agg [D.int IntKind.i64 x.sign, ib (db 2 x.natAbs)], V.agg [D.int IntKind.i64 (↑d : Int).sign, ib (db 2 (↑d : Int).natAbs)]] [] (V.agg [D.int IntKind.i64 (↑g : Int).sign, ib (db 2 (↑g : Int).natAbs)]) [] ∧ 0 + (zc (↑g : Int)).length ≤ (TI.mk (Kind.struct [(0, 1), (1, 1)]) 2 32 [D.int IntKind.i64 (0 : Int), D.lst 0 []]).zero.length ∧ K (St.mk [(1, V.ptr 0 0), (2, V.ptr 1 0), (3, V.ptr 7 0)] [(0, some (Blk.mk [D.int IntKind.i64 x.sign, ib (db 2 x.natAbs), D.int IntKind.i64 (↑d : Int).sign, ib (db 2 (↑d : Int).natAbs)] true)), (1, some (Blk.mk [D.int IntKind.i64 (0 : Int), D.lst 0 [], D.int IntKind.i64 (0 : Int), D.lst 0 []] true)), (7, some (Blk.mk [D.int IntKind.i64 (↑g : Int).sign, ib (db 2 (↑g : Int).natAbs)] true))] 9)) (fun K => by kernel_rfl) ?_
  refine ⟨⟨rfl, rfl⟩, ⟨rfl, rfl⟩, hg, by simp [zc], ?_⟩
  refine awp_sx prog_ok hP hnt [] [.val (.tup [.agg (zc (mkRat x d).num), .agg (zc (x.tmod (g : Nat)))])] [some (zc x), some (zc (g : Nat))] [1, 2, 3, 4] (by kernel_rfl) (G := fun K => ([D.int IntKind.i64 x.sign, ib (db 2 x.natAbs), D.int IntKind.i64 (↑d : Int).sign, ib (db 2 (↑d : Int).natAbs)][0]? = some (D.int IntKind.i64 x.sign) ∧ [D.int IntKind.i64 x.sign, ib (db 2 x.natAbs), D.int IntKind.i64 (↑d : Int).sign, ib (db 2 (↑d : Int).natAbs)][1]? = some (ib (db 2 x.natAbs))) ∧ ([D.int IntKind.i64 (↑g : Int).sign, ib (db 2 (↑g : Int).natAbs)][0]? = some (D.int IntKind.i64 (↑g : Int).sign) ∧ [D.int IntKind.i64 (↑g : Int).sign, ib (db 2 (↑g : Int).natAbs)][1]? = some (ib (db 2 (↑g : Int).natAbs))) ∧ Fn Try.prog 199 [V.agg [D.int IntKind.i64 x.sign, ib (db 2 x.natAbs)], V.agg [D.int IntKind.i64 (↑g : Int).sign, ib (db 2 (↑g : Int).natAbs)]] [] (V.tup [V.agg [D.int IntKind.i64 (mkRat x d).num.sign, ib (db 2 (mkRat x d).num.natAbs)], V.agg [D.int IntKind.i64 (x.tmod (↑g : Int)).sign, ib (db 2 (x.tmod (↑g : Int)).natAbs)]]) [] ∧ 0 + (zc (mkRat x d).num).length ≤ (TI.mk (Kind.struct [(0, 1), (1, 1)]) 2 32 [D.int IntKind.i64 (0 : Int), D.lst 0 []]).zero.length ∧ 0 + (zc (x.tmod (↑g : Int))).length ≤ (TI.mk (Kind.struct [(0, 1), (1, 1)]) 2 32 [D.int IntKind.i64 (0 : Int), D.lst 0 []]).zero.length ∧ K (St.mk [(1, V.ptr 0 0), (2, V.ptr 1 0), (3, V.ptr 7 0), (4, V.ptr 16 0)] [(0, some (Blk.mk [D.int IntKind.i64 x.sign, ib (db 2 x.natAbs), D.int IntKind.i64 (↑d : Int).sign, ib (db 2 (↑d : Int).natAbs)] true)), (1, some (Blk.mk [D.int IntKind.i64 (0 : Int), D.lst 0 [], D.int IntKind.i64 (0 : Int), D.lst 0 []] true)), (7, some (Blk.mk [D.int IntKind.i64 (↑g : Int).sign, ib (db 2 (↑g : Int).natAbs)] true)), (16, some (Blk.mk [D.int IntKind.i64 (mkRat x d).num.sign, ib (db 2 (mkRat x d).num.natAbs)] true)), (17, some (Blk.mk [D.int IntKind.i64 (x.tmod (↑g : Int)).sign, ib (db 2 (x.tmod (↑g : Int)).natAbs)] true))] 20)) (fun K => by kernel_rfl) ?_
  refine ⟨⟨rfl, rfl⟩, ⟨rfl, rfl⟩, q1, by simp [zc], by simp [zc], ?_⟩
  refine awp_sx prog_ok hP hnt [] [.val (.tup [.agg (zc ((mkRat x d).den : Nat)), .agg (zc ((d : Int).tmod (g : Nat)))])] [some (zc (d : Nat)), some (zc (g : Nat))] [2, 4, 6] (by kernel_rfl) (G := fun K => ([D.int IntKind.i64 x.sign, ib (db 2 x.natAbs), D.int IntKind.i64 (↑d : Int).sign, ib (db 2 (↑d : Int).natAbs)][2]? = some (D.int IntKind.i64 (↑d : Int).sign) ∧ [D.int IntKind.i64 x.sign, ib (db 2 x.natAbs), D.int IntKind.i64 (↑d : Int).sign, ib (db 2 (↑d : Int).natAbs)][3]? = some (ib (db 2 (↑d : Int).natAbs))) ∧ ([D.int IntKind.i64 (↑g : Int).sign, ib (db 2 (↑g : Int).natAbs)][0]? = some (D.int IntKind.i64 (↑g : Int).sign) ∧ [D.int IntKind.i64 (↑g : Int).sign, ib (db 2 (↑g : Int).natAbs)][1]? = some (ib (db 2 (↑g : Int).natAbs))) ∧ Fn Try.prog 199 [V.agg [D.int IntKind.i64 (↑d : Int).sign, ib (db 2 (↑d : Int).natAbs)], V.agg [D.int IntKind.i64 (↑g : Int).sign, ib (db 2 (↑g : Int).natAbs)]] [] (V.tup [V.agg [D.int IntKind.i64 (↑(mkRat x d).den : Int).sign, ib (db 2 (↑(mkRat x d).den : Int).natAbs)], V.agg [D.int IntKind.i64 ((↑d : Int).tmod (↑g : Int)).sign, ib (db 2 ((↑d : Int).tmod (↑g : Int)).natAbs)]]) [] ∧ 0 + (zc (↑(mkRat x d).den : Int)).length ≤ (TI.mk (Kind.struct [(0, 1), (1, 1)]) 2 32 [D.int IntKind.i64 (0 : Int), D.lst 0 []]).zero.length ∧ 0 + (zc ((↑d : Int).tmod (↑g : Int))).length ≤ (TI.mk (Kind.struct [(0, 1), (1, 1)]) 2 32 [D.int IntKind.i64 (0 : Int), D.lst 0 []]).zero.length ∧ K (St.mk [(2, V.ptr 1 0), (4, V.ptr 16 0), (6, V.ptr 27 0)] [(0, some (Blk.mk [D.int IntKind.i64 x.sign, ib (db 2 x.natAbs), D.int IntKind.i64 (↑d : Int).sign, ib (db 2 (↑d : Int).natAbs)] true)), (1, some (Blk.mk [D.int IntKind.i64 (0 : Int), D.lst 0 [], D.int IntKind.i64 (0 : Int), D.lst 0 []] true)), (7, some (Blk.mk [D.int IntKind.i64 (↑g : Int).sign, ib (db 2 (↑g : Int).natAbs)] true)), (16, some (Blk.mk [D.int IntKind.i64 (mkRat x d).num.sign, ib (db 2 (mkRat x d).num.natAbs)] true)), (17, some (Blk.mk [D.int IntKind.i64 (x.tmod (↑g : Int)).sign, ib (db 2 (x.tmod (↑g : Int)).natAbs)] true)), (27, some (Blk.mk [D.int IntKind.i64 (↑(mkRat x d).den : Int).sign, ib (db 2 (↑(mkRat x d).den : Int).natAbs)] true)), (28, some (Blk.mk [D.int IntKind.i64 ((↑d : Int).tmod (↑g : Int)).sign, ib (db 2 ((↑d : Int).tmod (↑g : Int)).natAbs)] true))] 31)) (fun K => by kernel_rfl) ?_
  refine ⟨⟨rfl, rfl⟩, ⟨rfl, rfl⟩, q2, by simp [zc], by simp [zc], ?_⟩
  refine awp_sx prog_ok hP hnt [] [] [some (zc (mkRat x d).num), some (zc ((mkRat x d).den : Nat))] [2] (by kernel_rfl) (G := fun K => ([D.int IntKind.i64 (mkRat x d).num.sign, ib (db 2 (mkRat x d).num.natAbs)][0]? = some (D.int IntKind.i64 (mkRat x d).num.sign) ∧ [D.int IntKind.i64 (mkRat x d).num.sign, ib (db 2 (mkRat x d).num.natAbs)][1]? = some (ib (db 2 (mkRat x d).num.natAbs))) ∧ ([D.int IntKind.i64 (↑(mkRat x d).den : Int).sign, ib (db 2 (↑(mkRat x d).den : Int).natAbs)][0]? = some (D.int IntKind.i64 (↑(mkRat x d).den : Int).sign) ∧ [D.int IntKind.i64 (↑(mkRat x d).den : Int).sign, ib (db 2 (↑(mkRat x d).den : Int).natAbs)][1]? = some (ib (db 2 (↑(mkRat x d).den : Int).natAbs))) ∧ 0 + (setCells (setCells (TI.mk (Kind.struct [(0, 2), (2, 2)]) 4 64 [D.int IntKind.i64 (0 : Int), D.lst 0 [], D.int IntKind.i64 (0 : Int), D.lst 0 []]).zero 0 (zc (mkRat x d).num)) 2 (zc (↑(mkRat x d).den : Int))).length ≤ [D.int IntKind.i64 (0 : Int), D.lst 0 [], D.int IntKind.i64 (0 : Int), D.lst 0 []].length ∧ K (St.mk [(2, V.ptr 1 0)] [(0, some (Blk.mk [D.int IntKind.i64 x.sign, ib (db 2 x.natAbs), D.int IntKind.i64 (↑d : Int).sign, ib (db 2 (↑d : Int).natAbs)] true)), (1, some (Blk.mk [D.int IntKind.i64 (mkRat x d).num.sign, ib (db 2 (mkRat x d).num.natAbs), D.int IntKind.i64 (↑(mkRat x d).den : Int).sign, ib (db 2 (↑(mkRat x d).den : Int).natAbs)] true)), (7, some (Blk.mk [D.int IntKind.i64 (↑g : Int).sign, ib (db 2 (↑g : Int).natAbs)] true)), (16, some (Blk.mk [D.int IntKind.i64 (mkRat x d).num.sign, ib (db 2 (mkRat x d).num.natAbs)] true)), (17, some (Blk.mk [D.int IntKind.i64 (x.tmod (↑g : Int)).sign, ib (db 2 (x.tmod (↑g : Int)).natAbs)] true)), (27, some (Blk.mk [D.int IntKind.i64 (↑(mkRat x d).den : Int).sign, ib (db 2 (↑(mkRat x d).den : Int).natAbs)] true)), (28, some (Blk.mk [D.int IntKind.i64 ((↑d : Int).tmod (↑g : Int)).sign, ib (db 2 ((↑d : Int).tmod (↑g : Int)).natAbs)] true))] 35)) (fun K => by kernel_rfl) ?_
  exact ⟨⟨rfl, rfl⟩, ⟨rfl, rfl⟩, by simp [zc, setCells_len], awp_ret ⟨.inl rfl, retC (l := true) rfl rfl rfl rfl⟩⟩

theorem qis_fn (x : Int) (d : Nat) (d0 : d ≠ 0) {K : Nat} (hK : K ≤ 2 ^ 35) (hx : x.natAbs < 2 ^ K) (hd : d < 2 ^ K) (q : Rat) (hq : mkRat x d = q) :
    Fn Try.prog 94 [.d (.bool (riz q.num).1), .d (du (riz q.num).2), .d (du (dig q.den)), .agg (qz x d)] [] (.d (.bool true)) [] := by
  refine fn0 (nt := 23) (res := [.tmp 8]) Try.func94 rfl (by decide) rfl rfl rfl rfl ?_
  intro Cx hP hnt hl
  have hr := qreduced_fn x d d0 hK hx hd
  have hk1 : 1 ≤ K := by
    rcases Nat.eq_zero_or_pos K with h | h
    · subst h; simp at hd; omega
    · exact h
  have hqb : Qb K q := hq ▸ mkRat_b hx hd hk1
  rw [hq] at hr
  have i1 := zisT q.num (K := K) (by omega) hqb.1
  have i2 := zisT (q.den : Int) (K := K) (by omega) (by simpa using hqb.2)
  have e1 : (riz (q.den : Int)).1 = false := by show decide (((q.den : Nat) : Int) < 0) = false; exact decide_eq_false (by omega)
  have e2 : (riz (q.den : Int)).2 = dig q.den := by show dig ((q.den : Nat) : Int).natAbs = _; rw [Int.natAbs_natCast]
  rw [e1, e2] at i2
  refine awp_sx prog_ok hP hnt [] [] [] [0, 1, 2, 7] (by kernel_rfl) (G := fun K => K (St.mk [(0, V.d (D.bool (riz q.num).fst)), (1, V.d (du (riz q.num).snd)), (2, V.d (du (dig q.den))), (7, V.ptr 0 0)] [(0, some (Blk.mk [D.int IntKind.i64 x.sign, ib (db 2 x.natAbs), D.int IntKind.i64 (↑d : Int).sign, ib (db 2 (↑d : Int).natAbs)] true))] 2)) (fun K => by kernel_rfl) ?_
  refine awp_sx prog_ok hP hnt [] [.val (.agg (qz q.num q.den))] [some (qz x d)] [0, 1, 2, 9] (by kernel_rfl) (G := fun K => ([D.int IntKind.i64 x.sign, ib (db 2 x.natAbs), D.int IntKind.i64 (↑d : Int).sign, ib (db 2 (↑d : Int).natAbs)][0]? = some (D.int IntKind.i64 x.sign) ∧ [D.int IntKind.i64 x.sign, ib (db 2 x.natAbs), D.int IntKind.i64 (↑d : Int).sign, ib (db 2 (↑d : Int).natAbs)][1]? = some (ib (db 2 x.natAbs)) ∧ [D.int IntKind.i64 x.sign, ib (db 2 x.natAbs), D.int IntKind.i64 (↑d : Int).sign, ib (db 2 (↑d : Int).natAbs)][2]? = some (D.int IntKind.i64 (↑d : Int).sign) ∧ [D.int IntKind.i64 x.sign, ib (db 2 x.natAbs), D.int IntKind.i64 (↑d : Int).sign, ib (db 2 (↑d : Int).natAbs)][3]? = some (ib (db 2 (↑d : Int).natAbs))) ∧ Fn Try.prog 179 [V.agg [D.int IntKind.i64 x.sign, ib (db 2 x.natAbs), D.int IntKind.i64 (↑d : Int).sign, ib (db 2 (↑d : Int).natAbs)]] [] (V.agg [D.int IntKind.i64 q.num.sign, ib (db 2 q.num.natAbs), D.int IntKind.i64 (↑q.den : Int).sign, ib (db 2 (↑q.den : Int).natAbs)]) [] ∧ 0 + (qz q.num (↑q.den : Int)).length ≤ (TI.mk (Kind.struct [(0, 2), (2, 2)]) 4 64 [D.int IntKind.i64 (0 : Int), D.lst 0 [], D.int IntKind.i64 (0 : Int), D.lst 0 []]).zero.length ∧ K (St.mk [(0, V.d (D.bool (riz q.num).fst)), (1, V.d (du (riz q.num).snd)), (2, V.d (du (dig q.den))), (9, V.ptr 4 0)] [(0, some (Blk.mk [D.int IntKind.i64 x.sign, ib (db 2 x.natAbs), D.int IntKind.i64 (↑d : Int).sign, ib (db 2 (↑d : Int).natAbs)] true)), (4, some (Blk.mk [D.int IntKind.i64 q.num.sign, ib (db 2 q.num.natAbs), D.int IntKind.i64 (↑q.den : Int).sign, ib (db 2 (↑q.den : Int).natAbs)] true))] 6)) (fun K => by kernel_rfl) ?_
  refine ⟨⟨rfl, rfl, rfl, rfl⟩, hr, by simp [qz, zc], ?_⟩
  refine awp_sx prog_ok hP hnt [] [.val (.d (.bool true)), .val (.d (.bool true))] [some (zc q.num), some (zc (q.den : Nat))] [8] (by kernel_rfl) (G := fun K => ([D.int IntKind.i64 q.num.sign, ib (db 2 q.num.natAbs), D.int IntKind.i64 (↑q.den : Int).sign, ib (db 2 (↑q.den : Int).natAbs)][0]? = some (D.int IntKind.i64 q.num.sign) ∧ [D.int IntKind.i64 q.num.sign, ib (db 2 q.num.natAbs), D.int IntKind.i64 (↑q.den : Int).sign, ib (db 2 (↑q.den : Int).natAbs)][1]? = some (ib (db 2 q.num.natAbs))) ∧ Fn Try.prog 69 [V.d (D.bool (riz q.num).fst), V.d (du (riz q.num).snd), V.agg [D.int IntKind.i64 q.num.sign, ib (db 2 q.num.natAbs)]] [] (V.d (D.bool true)) [] ∧ ([D.int IntKind.i64 q.num.sign, ib (db 2 q.num.natAbs), D.int IntKind.i64 (↑q.den : Int).sign, ib (db 2 (↑q.den : Int).natAbs)][2]? = some (D.int IntKind.i64 (↑q.den : Int).sign) ∧ [D.int IntKind.i64 q.num.sign, ib (db 2 q.num.natAbs), D.int IntKind.i64 (↑q.den : Int).sign, ib (db 2 (↑q.den : Int).natAbs)][3]? = some (ib (db 2 (↑q.den : Int).natAbs))) ∧ Fn Try.prog 69 [V.d (D.bool false), V.d (du (dig q.den)), V.agg [D.int IntKind.i64 (↑q.den : Int).sign, ib (db 2 (↑q.den : Int).natAbs)]] [] (V.d (D.bool true)) [] ∧ K (St.mk [(8, V.d (D.bool true))] [(0, some (Blk.mk [D.int IntKind.i64 x.sign, ib (db 2 x.natAbs), D.int IntKind.i64 (↑d : Int).sign, ib (db 2 (↑d : Int).natAbs)] true)), (4, some (Blk.mk [D.int IntKind.i64 q.num.sign, ib (db 2 q.num.natAbs), D.int IntKind.i64 (↑q.den : Int).sign, ib (db 2 (↑q.den : Int).natAbs)] true))] 18)) (fun K => by kernel_rfl) ?_
  exact ⟨⟨rfl, rfl⟩, i1, ⟨rfl, rfl⟩, i2, awp_ret ⟨.inl rfl, retD rfl⟩⟩
end Go.Abs

set_option linter.unusedVariables false
set_option linter.unusedSimpArgs false
namespace Go.Abs
open Go Go.Proofs Poly
set_option maxRecDepth 100000

def q1 (c : Int) : List D := qz c 1
theorem q1_len (c : Int) : (q1 c).length = 4 := rfl
def qs (l : List Int) : D := .lst l.length (fm q1 l)
@[simp] theorem fq1_len (l : List Int) : (fm q1 l).length = l.length * 4 := fm_len q1_len l
theorem fq1_at {l : List Int} {i : Nat} {z : Int} (h : l[i]? = some z) : (fm q1 l).drop (i * 4) = q1 z ++ fm q1 (l.drop (i + 1)) := fm_at q1_len h

theorem val06_fn (l : List Int) (x : Int) (d : Nat) {K L : Nat} (hl1 : Bz K l) (hx : x.natAbs < 2 ^ L) (hd : d < 2 ^ L) (hE : K + (l.length + 4) * (L + 1) + 4 ≤ 2 ^ 34) (hln : l.length ≤ 2 ^ 30) :
    Fn Try.prog 177 [.d (qs l), .agg (qz x d)] [] (.agg (qz (d * hb (fun k => l.getD k 0) l.length x d) ((d : Int) ^ l.length))) [] := by
  refine fn0 (nt := 24) (res := [.cell 4 81]) Try.func177 rfl (by decide) rfl rfl rfl rfl ?_
  intro Cx hP hnt hl
  obtain ⟨N, hN⟩ : ∃ N, N = l.length := ⟨_, rfl⟩
  obtain ⟨c, hc⟩ : ∃ c : Nat → Int, c = fun k => l.getD k 0 := ⟨_, rfl⟩
  have hcb : ∀ k, (c k).natAbs < 2 ^ K := fun k => by rw [hc]; exact hl1.getD k
  rw [← hc, ← hN]
  rw [← hN] at hE hln
  obtain ⟨E, hEe⟩ : ∃ E, E = K + (N + 4) * (L + 1) + 4 := ⟨_, rfl⟩
  rw [← hEe] at hE
  have hE2 : E = K + N * (L + 1) + 4 * (L + 1) + 4 := by rw [hEe, Nat.add_mul]; omega
  have hNL : N * (L + 1) = N * L + N := by rw [Nat.mul_add, Nat.mul_one]
  have hdn : ((d : Int)).natAbs < 2 ^ L := by simpa using hd
  have hHb : ∀ k, (hbt c N k x d).natAbs < 2 ^ (K + N * (L + 1) + 1) := fun k => hbt_b hx hdn hcb
  have hPb : ∀ k, k ≤ N → ((d : Int) ^ k).natAbs < 2 ^ (N * L + 1) := fun k hk => Nat.lt_of_lt_of_le (pow_b hdn k) (pw (by have := Nat.mul_le_mul_right L hk; omega))
  have h0 := qnumber_fn 0 (by decide)
  refine awp_sx prog_ok hP hnt [] [] [] [0, 3, 4] (by kernel_rfl) (G := fun K => K (St.mk [(0, V.d (qs l)), (3, V.ptr 0 0), (4, V.ptr 1 0)] [(0, some (Blk.mk [D.int IntKind.i64 x.sign, ib (db 2 x.natAbs), D.int IntKind.i64 (↑d : Int).sign, ib (db 2 (↑d : Int).natAbs)] true)), (1, some (Blk.mk [D.int IntKind.i64 (0 : Int), D.lst 0 [], D.int IntKind.i64 (0 : Int), D.lst 0 []] true))] 2)) (fun K => by kernel_rfl) ?_
  refine awp_sx prog_ok hP hnt [] [.val (.agg (qz 0 1))] [] [0, 3, 4, 5] (by kernel_rfl) (G := fun K => Fn Try.prog 223 [V.d (D.int IntKind.i64 (0 : Int))] [] (V.agg [D.int IntKind.i64 (Int.sign (0 : Int)), ib (db 2 (Int.natAbs (0 : Int))), D.int IntKind.i64 (Int.sign (1 : Int)), ib (db 2 (Int.natAbs (1 : Int)))]) [] ∧ 4 ≤ (TI.mk (Kind.struct [(0, 2), (2, 2)]) 4 64 [D.int IntKind.i64 (0 : Int), D.lst 0 [], D.int IntKind.i64 (0 : Int), D.lst 0 []]).zero.length ∧ K (St.mk [(0, V.d (qs l)), (3, V.ptr 0 0), (4, V.ptr 1 0), (5, V.ptr 3 0)] [(0, some (Blk.mk [D.int IntKind.i64 x.sign, ib (db 2 x.natAbs), D.int IntKind.i64 (↑d : Int).sign, ib (db 2 (↑d : Int).natAbs)] true)), (1, some (Blk.mk [D.int IntKind.i64 (0 : Int), D.lst 0 [], D.int IntKind.i64 (0 : Int), D.lst 0 []] true)), (3, some (Blk.mk [D.int IntKind.i64 (Int.sign (0 : Int)), ib (db 2 (Int.natAbs (0 : Int))), D.int IntKind.i64 (Int.sign (1 : Int)), ib (db 2 (Int.natAbs (1 : Int)))] true))] 5)) (fun K => by kernel_rfl) ?_
  refine ⟨h0, by simp [qz, zc], ?_⟩
  refine awp_cut (ι := Unit) (fun _ => ⟨[(4, .ptr 0 0), (5, .ptr 1 0)], [(0, some ⟨[.int .i64 0, .lst 0 [], .int .i64 0, .lst 0 []], true⟩), (1, some ⟨qz (d * hb c N x d) ((d : Int) ^ N), true⟩)], 2⟩) (fun _ => True) ?_ ?_
  · refine awp_sx prog_ok hP hnt [(10, .int .i64 ((N : Int) - 1))] [] [] [0, 3, 4, 5, 6] (by kernel_rfl) (G := fun K => IntKind.i64.wrap ((↑l.length : Int) - (1 : Int)) = (↑N : Int) - (1 : Int) ∧ K (St.mk [(0, V.d (qs l)), (3, V.ptr 0 0), (4, V.ptr 1 0), (5, V.ptr 3 0), (6, V.d (D.int IntKind.i64 ((↑N : Int) - (1 : Int))))] [(0, some (Blk.mk [D.int IntKind.i64 x.sign, ib (db 2 x.natAbs), D.int IntKind.i64 (↑d : Int).sign, ib (db 2 (↑d : Int).natAbs)] true)), (1, some (Blk.mk [D.int IntKind.i64 (0 : Int), D.lst 0 [], D.int IntKind.i64 (0 : Int), D.lst 0 []] true)), (3, some (Blk.mk [D.int IntKind.i64 (Int.sign (0 : Int)), ib (db 2 (Int.natAbs (0 : Int))), D.int IntKind.i64 (Int.sign (1 : Int)), ib (db 2 (Int.natAbs (1 : Int)))] true))] 9)) (fun K => by kernel_rfl) ?_
    refine ⟨by rw [← hN, w64] <;> omega, ?_⟩
    refine awp_block ?_
    refine awp_loop (ι := Nat) (fun j => ⟨[(0, .d (qs l)), (3, .ptr 0 0), (4, .ptr 1 0), (5, .ptr 2 0), (6, .d (.int .i64 ((N : Int) - 1 - j)))], [(0, some ⟨qz x d, true⟩), (1, some ⟨[.int .i64 0, .lst 0 [], .int .i64 0, .lst 0 []], true⟩), (2, some ⟨qz (d * hbt c N (N - j) x d) ((d : Int) ^ j), true⟩)], 3⟩)
      (fun j => j ≤ N) (fun j => N - j) 0 [(0, 0), (1, 1), (2, 3)] (by omega) ?_ ?_
    · rw [Nat.sub_zero, hbt_top, Int.mul_zero, Int.pow_zero]
      (constructor <;> simp [hl, envOk, memOk, conv, St.get, St.blk, qz, zc])
    intro j hj
    refine awp_seq_k fun K1 hK1 => ?_
    refine awp_sx prog_ok hP hnt [] [] [] [0, 3, 4, 5, 6, 12] (by kernel_rfl) (G := fun K => K (St.mk [(0, V.d (qs l)), (3, V.ptr 0 0), (4, V.ptr 1 0), (5, V.ptr 2 0), (6, V.d (D.int IntKind.i64 ((↑N : Int) - (1 : Int) - (↑j : Int)))), (12, V.d (D.bool (decide ((↑N : Int) - (1 : Int) - (↑j : Int) ≥ (0 : Int)))))] [(0, some (Blk.mk [D.int IntKind.i64 x.sign, ib (db 2 x.natAbs), D.int IntKind.i64 (↑d : Int).sign, ib (db 2 (↑d : Int).natAbs)] true)), (1, some (Blk.mk [D.int IntKind.i64 (0 : Int), D.lst 0 [], D.int IntKind.i64 (0 : Int), D.lst 0 []] true)), (2, some (Blk.mk [D.int IntKind.i64 ((↑d : Int) * hbt c N (N - j) x (↑d : Int)).sign, ib (db 2 ((↑d : Int) * hbt c N (N - j) x (↑d : Int)).natAbs), D.int IntKind.i64 ((↑d : Int) ^ j).sign, ib (db 2 ((↑d : Int) ^ j).natAbs)] true))] 5)) (fun K => by kernel_rfl) ?_
    refine awp_cond rfl (fun e => awp_skip (hK1 _ ?_)) (fun e => awp_exit ⟨(), [(0, 1), (1, 2)], trivial, ?_⟩)
    · simp at e
      have ej : (N : Int) - 1 - j = ((N - 1 - j : Nat) : Int) := by omega
      rw [ej]
      obtain ⟨i0, hi0⟩ : ∃ i0, i0 = N - 1 - j := ⟨_, rfl⟩
      rw [← hi0]
      have hz : l[i0]? = some (c i0) := by rw [hc]; exact getD_some (by omega)
      have hst := hbt_step c (n := N) (i := i0) (by omega) x d
      rw [show i0 + 1 = N - j by omega, show N - 1 - i0 = j by omega] at hst
      have hHj := hHb (N - j)
      have hPj := hPb j (by omega)
      have hci := hcb i0
      obtain ⟨H, hH⟩ : ∃ H, H = hbt c N (N - j) x d := ⟨_, rfl⟩
      obtain ⟨P, hP0⟩ : ∃ P, P = (d : Int) ^ j := ⟨_, rfl⟩
      obtain ⟨z, hz0⟩ : ∃ z, z = c i0 := ⟨_, rfl⟩
      have hPs : (d : Int) ^ (j + 1) = P * d := by rw [hP0, Int.pow_succ]
      rw [← hH, ← hP0, ← hz0] at hst
      rw [← hH] at hHj ⊢
      rw [← hP0] at hPj ⊢
      rw [← hz0] at hci hz
      have b1 : ((d : Int) * H).natAbs < 2 ^ (L + (K + N * (L + 1) + 1)) := by rw [Int.natAbs_mul]; exact mul_lt2 hdn hHj
      have b2 : ((d : Int) * H * x).natAbs < 2 ^ (L + (K + N * (L + 1) + 1) + L) := by rw [Int.natAbs_mul]; exact mul_lt2 b1 hx
      have b3 : (P * d).natAbs < 2 ^ (N * L + 1 + L) := by rw [Int.natAbs_mul]; exact mul_lt2 hPj hdn
      have le1 := fun {a : Nat} {k : Nat} (h : a < 2 ^ k) (hk : k ≤ E) => Nat.lt_of_lt_of_le h (pw hk)
      have m1 := qmul_fn ((d : Int) * H) x P d (K := E) (by omega) (le1 b1 (by omega)) (le1 hx (by omega)) (le1 hPj (by omega)) (le1 hdn (by omega))
      have m2 := qadd_fn ((d : Int) * H * x) z (P * d) 1 (K := E) (by omega) (le1 b2 (by omega)) (le1 hci (by omega)) (le1 b3 (by omega)) (le1 (k := 1) (by decide) (by omega))
      have e1 : (d : Int) * H * x * 1 + z * (P * d) = d * hbt c N i0 x d := by rw [hst]; grind
      rw [e1, Int.mul_one, ← hPs] at m2
      rw [← hPs] at m1
      refine awp_seq_k fun K2 hK2 => ?_
      refine awp_block ?_
      refine awp_x prog_ok hP hnt [] [.val (.agg (qz ((d : Int) * H * x) ((d : Int) ^ (j + 1)))), .val (.agg (qz (d * hbt c N i0 x d) ((d : Int) ^ (j + 1))))] [some (qz (d * H) P), some (qz x d), some (q1 z)] [0, 3, 4, 5, 6] (by kernel_rfl) (G := fun K => ([D.int IntKind.i64 ((↑d : Int) * H).sign, ib (db 2 ((↑d : Int) * H).natAbs), D.int IntKind.i64 P.sign, ib (db 2 P.natAbs)][0]? = some (D.int IntKind.i64 ((↑d : Int) * H).sign) ∧ [D.int IntKind.i64 ((↑d : Int) * H).sign, ib (db 2 ((↑d : Int) * H).natAbs), D.int IntKind.i64 P.sign, ib (db 2 P.natAbs)][1]? = some (ib (db 2 ((↑d : Int) * H).natAbs)) ∧ [D.int IntKind.i64 ((↑d : Int) * H).sign, ib (db 2 ((↑d : Int) * H).natAbs), D.int IntKind.i64 P.sign, ib (db 2 P.natAbs)][2]? = some (D.int IntKind.i64 P.sign) ∧ [D.int IntKind.i64 ((↑d : Int) * H).sign, ib (db 2 ((↑d : Int) * H).natAbs), D.int IntKind.i64 P.sign, ib (db 2 P.natAbs)][3]? = some (ib (db 2 P.natAbs))) ∧ ([D.int IntKind.i64 x.sign, ib (db 2 x.natAbs), D.int IntKind.i64 (↑d : Int).sign, ib (db 2 (↑d : Int).natAbs)][0]? = some (D.int IntKind.i64 x.sign) ∧ [D.int IntKind.i64 x.sign, ib (db 2 x.natAbs), D.int IntKind.i64 (↑d : Int).sign, ib (db 2 (↑d : Int).natAbs)][1]? = some (ib (db 2 x.natAbs)) ∧ [D.int IntKind.i64 x.sign, ib (db 2 x.natAbs), D.int IntKind.i64 (↑d : Int).sign, ib (db 2 (↑d : Int).natAbs)][2]? = some (D.int IntKind.i64 (↑d : Int).sign) ∧ [D.int IntKind.i64 x.sign, ib (db 2 x.natAbs), D.int IntKind.i64 (↑d : Int).sign, ib (db 2 (↑d : Int).natAbs)][3]? = some (ib (db 2 (↑d : Int).natAbs))) ∧ Fn Try.prog 225 [V.agg [D.int IntKind.i64 ((↑d : Int) * H).sign, ib (db 2 ((↑d : Int) * H).natAbs), D.int IntKind.i64 P.sign, ib (db 2 P.natAbs)], V.agg [D.int IntKind.i64 x.sign, ib (db 2 x.natAbs), D.int IntKind.i64 (↑d : Int).sign, ib (db 2 (↑d : Int).natAbs)]] [] (V.agg [D.int IntKind.i64 ((↑d : Int) * H * x).sign, ib (db 2 ((↑d : Int) * H * x).natAbs), D.int IntKind.i64 ((↑d : Int) ^ (j + 1)).sign, ib (db 2 ((↑d : Int) ^ (j + 1)).natAbs)]) [] ∧ ((0 : Int) ≤ (↑i0 : Int) ∧ (↑i0 : Int) < (↑l.length : Int) ∧ ((↑i0 : Int).toNat + 1) * 4 ≤ (fm q1 l).length) ∧ ((List.drop ((↑i0 : Int).toNat * 4) (fm q1 l))[0]? = some (D.int IntKind.i64 z.sign) ∧ (List.drop ((↑i0 : Int).toNat * 4) (fm q1 l))[1]? = some (ib (db 2 z.natAbs)) ∧ (List.drop ((↑i0 : Int).toNat * 4) (fm q1 l))[2]? = some (D.int IntKind.i64 (Int.sign (1 : Int))) ∧ (List.drop ((↑i0 : Int).toNat * 4) (fm q1 l))[3]? = some (ib (db 2 (Int.natAbs (1 : Int))))) ∧ Fn Try.prog 224 [V.agg [D.int IntKind.i64 ((↑d : Int) * H * x).sign, ib (db 2 ((↑d : Int) * H * x).natAbs), D.int IntKind.i64 ((↑d : Int) ^ (j + 1)).sign, ib (db 2 ((↑d : Int) ^ (j + 1)).natAbs)], V.agg [D.int IntKind.i64 z.sign, ib (db 2 z.natAbs), D.int IntKind.i64 (Int.sign (1 : Int)), ib (db 2 (Int.natAbs (1 : Int)))]] [] (V.agg [D.int IntKind.i64 ((↑d : Int) * hbt c N i0 x (↑d : Int)).sign, ib (db 2 ((↑d : Int) * hbt c N i0 x (↑d : Int)).natAbs), D.int IntKind.i64 ((↑d : Int) ^ (j + 1)).sign, ib (db 2 ((↑d : Int) ^ (j + 1)).natAbs)]) [] ∧ 0 + (qz ((↑d : Int) * hbt c N i0 x (↑d : Int)) ((↑d : Int) ^ (j + 1))).length ≤ [D.int IntKind.i64 ((↑d : Int) * H).sign, ib (db 2 ((↑d : Int) * H).natAbs), D.int IntKind.i64 P.sign, ib (db 2 P.natAbs)].length ∧ K (St.mk [(0, V.d (qs l)), (3, V.ptr 0 0), (4, V.ptr 1 0), (5, V.ptr 2 0), (6, V.d (D.int IntKind.i64 (↑i0 : Int)))] [(0, some (Blk.mk [D.int IntKind.i64 x.sign, ib (db 2 x.natAbs), D.int IntKind.i64 (↑d : Int).sign, ib (db 2 (↑d : Int).natAbs)] true)), (1, some (Blk.mk [D.int IntKind.i64 (0 : Int), D.lst 0 [], D.int IntKind.i64 (0 : Int), D.lst 0 []] true)), (2, some (Blk.mk [D.int IntKind.i64 ((↑d : Int) * hbt c N i0 x (↑d : Int)).sign, ib (db 2 ((↑d : Int) * hbt c N i0 x (↑d : Int)).natAbs), D.int IntKind.i64 ((↑d : Int) ^ (j + 1)).sign, ib (db 2 ((↑d : Int) ^ (j + 1)).natAbs)] true))] 14)) (fun K => by kernel_rfl) ?_
      refine ⟨⟨rfl, rfl, rfl, rfl⟩, ⟨rfl, rfl, rfl, rfl⟩, m1, ⟨by omega, by omega, by simp; omega⟩, by rw [Int.toNat_natCast, fq1_at hz]; exact ⟨rfl, rfl, rfl, rfl⟩, m2, by simp [qz, zc], hK2 _ ?_⟩
      refine awp_x prog_ok hP hnt [(14, .int .i64 ((N : Int) - 1 - (j + 1 : Nat)))] [] [] [0, 3, 4, 5, 6] (by kernel_rfl) (G := fun K => IntKind.i64.wrap ((↑i0 : Int) - (1 : Int)) = (↑N : Int) - (1 : Int) - (↑(j + 1) : Int) ∧ K (St.mk [(0, V.d (qs l)), (3, V.ptr 0 0), (4, V.ptr 1 0), (5, V.ptr 2 0), (6, V.d (D.int IntKind.i64 ((↑N : Int) - (1 : Int) - (↑(j + 1) : Int))))] [(0, some (Blk.mk [D.int IntKind.i64 x.sign, ib (db 2 x.natAbs), D.int IntKind.i64 (↑d : Int).sign, ib (db 2 (↑d : Int).natAbs)] true)), (1, some (Blk.mk [D.int IntKind.i64 (0 : Int), D.lst 0 [], D.int IntKind.i64 (0 : Int), D.lst 0 []] true)), (2, some (Blk.mk [D.int IntKind.i64 ((↑d : Int) * hbt c N i0 x (↑d : Int)).sign, ib (db 2 ((↑d : Int) * hbt c N i0 x (↑d : Int)).natAbs), D.int IntKind.i64 ((↑d : Int) ^ (j + 1)).sign, ib (db 2 ((↑d : Int) ^ (j + 1)).natAbs)] true))] 17)) (fun K => by kernel_rfl) ?_
      refine ⟨by rw [w64] <;> omega, j + 1, [(0, 0), (1, 1), (2, 2)], ⟨by omega, by omega⟩, ?_⟩
      rw [show N - (j + 1) = i0 by omega]
      (constructor <;> simp [hl, envOk, memOk, conv, St.get, St.blk, qz, zc, setCells])
    · simp at e
      have : j = N := by omega
      subst this
      rw [Nat.sub_self, hbt_zero]
      (constructor <;> simp [hl, envOk, memOk, conv, St.get, St.blk, qz, zc])
  intro _ _
  refine awp_sx prog_ok hP hnt [] [] [some (qz (d * hb c N x d) ((d : Int) ^ N))] [4] (by kernel_rfl) (G := fun K => ((qz ((↑d : Int) * hb c N x (↑d : Int)) ((↑d : Int) ^ N))[0]? = some (D.int IntKind.i64 ((↑d : Int) * hb c N x (↑d : Int)).sign) ∧ (qz ((↑d : Int) * hb c N x (↑d : Int)) ((↑d : Int) ^ N))[1]? = some (ib (db 2 ((↑d : Int) * hb c N x (↑d : Int)).natAbs)) ∧ (qz ((↑d : Int) * hb c N x (↑d : Int)) ((↑d : Int) ^ N))[2]? = some (D.int IntKind.i64 ((↑d : Int) ^ N).sign) ∧ (qz ((↑d : Int) * hb c N x (↑d : Int)) ((↑d : Int) ^ N))[3]? = some (ib (db 2 ((↑d : Int) ^ N).natAbs))) ∧ 0 + (qz ((↑d : Int) * hb c N x (↑d : Int)) ((↑d : Int) ^ N)).length ≤ [D.int IntKind.i64 (0 : Int), D.lst 0 [], D.int IntKind.i64 (0 : Int), D.lst 0 []].length ∧ K (St.mk [(4, V.ptr 0 0)] [(0, some (Blk.mk [D.int IntKind.i64 ((↑d : Int) * hb c N x (↑d : Int)).sign, ib (db 2 ((↑d : Int) * hb c N x (↑d : Int)).natAbs), D.int IntKind.i64 ((↑d : Int) ^ N).sign, ib (db 2 ((↑d : Int) ^ N).natAbs)] true)), (1, some (Blk.mk [D.int IntKind.i64 ((↑d : Int) * hb c N x (↑d : Int)).sign, ib (db 2 ((↑d : Int) * hb c N x (↑d : Int)).natAbs), D.int IntKind.i64 ((↑d : Int) ^ N).sign, ib (db 2 ((↑d : Int) ^ N).natAbs)] true))] 4)) (fun K => by kernel_rfl) ?_
  exact ⟨⟨rfl, rfl, rfl, rfl⟩, by simp [qz, zc], awp_ret ⟨.inl rfl, retC (l := true) rfl rfl rfl rfl⟩⟩

theorem val08_fn (l : List Int) (x : Int) (d : Nat) {K L : Nat} (hl1 : Bz K l) (hx : x.natAbs < 2 ^ L) (hd : d < 2 ^ L) (hE : K + (l.length + 4) * (L + 1) + 4 ≤ 2 ^ 34) (hln : l.length ≤ 2 ^ 30) :
    Fn Try.prog 90 [.d (zl l), .agg (qz x d)] [] (.agg (qz (d * hb (fun k => l.getD k 0) l.length x d) ((d : Int) ^ l.length))) [] := by
  refine fn0 (nt := 25) (res := [.cell 4 81]) Try.func90 rfl (by decide) rfl rfl rfl rfl ?_
  intro Cx hP hnt hl
  have hv := val06_fn l x d hl1 hx hd hE hln
  have h1 := zsmall_fn 1 (by decide)
  refine awp_sx prog_ok hP hnt [] [] [] [0, 3, 4] (by kernel_rfl) (G := fun K => K (St.mk [(0, V.d (zl l)), (3, V.ptr 0 0), (4, V.ptr 1 0)] [(0, some (Blk.mk [D.int IntKind.i64 x.sign, ib (db 2 x.natAbs), D.int IntKind.i64 (↑d : Int).sign, ib (db 2 (↑d : Int).natAbs)] true)), (1, some (Blk.mk [D.int IntKind.i64 (0 : Int), D.lst 0 [], D.int IntKind.i64 (0 : Int), D.lst 0 []] true))] 2)) (fun K => by kernel_rfl) ?_
  refine awp_sx prog_ok hP hnt [] [] [] [0, 3, 4, 5] (by kernel_rfl) (G := fun K => K (St.mk [(0, V.d (zl l)), (3, V.ptr 0 0), (4, V.ptr 1 0), (5, V.nil)] [(0, some (Blk.mk [D.int IntKind.i64 x.sign, ib (db 2 x.natAbs), D.int IntKind.i64 (↑d : Int).sign, ib (db 2 (↑d : Int).natAbs)] true)), (1, some (Blk.mk [D.int IntKind.i64 (0 : Int), D.lst 0 [], D.int IntKind.i64 (0 : Int), D.lst 0 []] true))] 3)) (fun K => by kernel_rfl) ?_
  refine awp_cut (ι := Unit) (fun _ => ⟨[(3, .ptr 0 0), (4, .ptr 1 0), (5, .own 2 0 l.length 4)], [(0, some ⟨qz x d, true⟩), (1, some ⟨[.int .i64 0, .lst 0 [], .int .i64 0, .lst 0 []], true⟩), (2, some ⟨fm q1 l, true⟩)], 3⟩) (fun _ => True) ?_ ?_
  · refine awp_sx prog_ok hP hnt [] [] [] [0, 3, 4, 5, 6] (by kernel_rfl) (G := fun K => K (St.mk [(0, V.d (zl l)), (3, V.ptr 0 0), (4, V.ptr 1 0), (5, V.nil), (6, V.d (D.int IntKind.i64 (0 : Int)))] [(0, some (Blk.mk [D.int IntKind.i64 x.sign, ib (db 2 x.natAbs), D.int IntKind.i64 (↑d : Int).sign, ib (db 2 (↑d : Int).natAbs)] true)), (1, some (Blk.mk [D.int IntKind.i64 (0 : Int), D.lst 0 [], D.int IntKind.i64 (0 : Int), D.lst 0 []] true))] 4)) (fun K => by kernel_rfl) ?_
    refine awp_block ?_
    refine awp_loop (ι := Nat) (fun k => ⟨[(0, .d (zl l)), (3, .ptr 0 0), (4, .ptr 1 0), (5, .own 2 0 k 4), (6, .d (.int .i64 k))], [(0, some ⟨qz x d, true⟩), (1, some ⟨[.int .i64 0, .lst 0 [], .int .i64 0, .lst 0 []], true⟩), (2, some ⟨fm q1 (l.take k), true⟩)], 3⟩)
      (fun k => k ≤ l.length) (fun k => l.length - k) 0 [(0, 0), (1, 1)] (by omega) ?_ ?_
    · (constructor <;> simp [hl, envOk, memOk, conv, St.get, St.blk, qz, zc, fm])
    intro k hk
    refine awp_seq_k fun K1 hK1 => ?_
    refine awp_sx prog_ok hP hnt [] [] [] [0, 3, 4, 5, 6, 10] (by kernel_rfl) (G := fun K => K (St.mk [(0, V.d (zl l)), (3, V.ptr 0 0), (4, V.ptr 1 0), (5, V.own 2 0 k 4), (6, V.d (D.int IntKind.i64 (↑k : Int))), (10, V.d (D.bool (decide ((↑k : Int) < (↑l.length : Int)))))] [(0, some (Blk.mk [D.int IntKind.i64 x.sign, ib (db 2 x.natAbs), D.int IntKind.i64 (↑d : Int).sign, ib (db 2 (↑d : Int).natAbs)] true)), (1, some (Blk.mk [D.int IntKind.i64 (0 : Int), D.lst 0 [], D.int IntKind.i64 (0 : Int), D.lst 0 []] true)), (2, some (Blk.mk (fm q1 (List.take k l)) true))] 7)) (fun K => by kernel_rfl) ?_
    refine awp_cond rfl (fun e => awp_skip (hK1 _ ?_)) (fun e => awp_exit ⟨(), [(0, 0), (1, 1), (2, 2)], trivial, ?_⟩)
    · simp at e
      obtain ⟨z, hz⟩ := get_ex (l := l) (i := k) e
      have hlk : (l.take k).length = k := by simp; omega
      have hsucc : l.take (k + 1) = l.take k ++ [z] := by rw [List.take_add_one, hz]; rfl
      have happ : fm q1 (l.take k) ++ q1 z = fm q1 (l.take (k + 1)) := by rw [hsucc, fm_app, fm_one]
      refine awp_seq_k fun K2 hK2 => ?_
      refine awp_block ?_
      refine awp_x prog_ok hP hnt [] [.val (.agg (zc 1))] [some (zc z)] [0, 3, 4, 5, 6] (by kernel_rfl) (G := fun K => ((0 : Int) ≤ (↑k : Int) ∧ (↑k : Int) < (↑l.length : Int) ∧ ((↑k : Int).toNat + 1) * 2 ≤ (zcs l).length) ∧ ((List.drop ((↑k : Int).toNat * 2) (zcs l))[0]? = some (D.int IntKind.i64 z.sign) ∧ (List.drop ((↑k : Int).toNat * 2) (zcs l))[1]? = some (ib (db 2 z.natAbs))) ∧ Fn Try.prog 41 [V.d (D.int IntKind.i64 (1 : Int))] [] (V.agg [D.int IntKind.i64 (Int.sign (1 : Int)), ib (db 2 (Int.natAbs (1 : Int)))]) [] ∧ 4 = 4 ∧ ((fm q1 (List.take k l)).length = k * 4 ∧ (k + 1) * 64 ≤ 2 ^ 47) ∧ K (St.mk [(0, V.d (zl l)), (3, V.ptr 0 0), (4, V.ptr 1 0), (5, V.own 15 0 (k + 1) 4), (6, V.d (D.int IntKind.i64 (↑k : Int)))] [(0, some (Blk.mk [D.int IntKind.i64 x.sign, ib (db 2 x.natAbs), D.int IntKind.i64 (↑d : Int).sign, ib (db 2 (↑d : Int).natAbs)] true)), (1, some (Blk.mk [D.int IntKind.i64 (0 : Int), D.lst 0 [], D.int IntKind.i64 (0 : Int), D.lst 0 []] true)), (2, none), (15, some (Blk.mk (fm q1 (List.take k l) ++ setCells (zeros 1 (TI.mk (Kind.struct [(0, 2), (2, 2)]) 4 64 [D.int IntKind.i64 (0 : Int), D.lst 0 [], D.int IntKind.i64 (0 : Int), D.lst 0 []]).zero) 0 (setCells (setCells (TI.mk (Kind.struct [(0, 2), (2, 2)]) 4 64 [D.int IntKind.i64 (0 : Int), D.lst 0 [], D.int IntKind.i64 (0 : Int), D.lst 0 []]).zero 0 (zc z)) 2 (zc (1 : Int)))) true))] 17)) (fun K => by kernel_rfl) ?_
      refine ⟨⟨by omega, by omega, by simp; omega⟩, by rw [zcs_drop hz]; exact ⟨rfl, rfl⟩, h1, rfl, ⟨by rw [fq1_len, hlk], by omega⟩, hK2 _ ?_⟩
      refine awp_x prog_ok hP hnt [(12, .int .i64 (k + 1 : Nat))] [] [] [0, 3, 4, 5, 6] (by kernel_rfl) (G := fun K => IntKind.i64.wrap ((↑k : Int) + (1 : Int)) = (↑(k + 1) : Int) ∧ K (St.mk [(0, V.d (zl l)), (3, V.ptr 0 0), (4, V.ptr 1 0), (5, V.own 15 0 (k + 1) 4), (6, V.d (D.int IntKind.i64 (↑(k + 1) : Int)))] [(0, some (Blk.mk [D.int IntKind.i64 x.sign, ib (db 2 x.natAbs), D.int IntKind.i64 (↑d : Int).sign, ib (db 2 (↑d : Int).natAbs)] true)), (1, some (Blk.mk [D.int IntKind.i64 (0 : Int), D.lst 0 [], D.int IntKind.i64 (0 : Int), D.lst 0 []] true)), (2, none), (15, some (Blk.mk (fm q1 (List.take k l) ++ setCells (zeros 1 (TI.mk (Kind.struct [(0, 2), (2, 2)]) 4 64 [D.int IntKind.i64 (0 : Int), D.lst 0 [], D.int IntKind.i64 (0 : Int), D.lst 0 []]).zero) 0 (setCells (setCells (TI.mk (Kind.struct [(0, 2), (2, 2)]) 4 64 [D.int IntKind.i64 (0 : Int), D.lst 0 [], D.int IntKind.i64 (0 : Int), D.lst 0 []]).zero 0 (zc z)) 2 (zc (1 : Int)))) true))] 20)) (fun K => by kernel_rfl) ?_
      refine ⟨by rw [w64] <;> omega, k + 1, [(0, 0), (1, 1), (2, 15)], ⟨by omega, by omega⟩, ?_⟩
      rw [← happ]
      (constructor <;> simp [hl, envOk, memOk, conv, St.get, St.blk, setCells, zeros, q1, qz, zc])
    · simp at e
      have : k = l.length := by omega
      subst this
      rw [List.take_length]
      (constructor <;> simp [hl, envOk, memOk, conv, St.get, St.blk, qz, zc])
  intro _ _
  refine awp_sx prog_ok hP hnt [] [.val (.agg (qz (d * hb (fun k => l.getD k 0) l.length x d) ((d : Int) ^ l.length)))] [some (qz x d)] [4] (by kernel_rfl) (G := fun K => ((qz x (↑d : Int))[0]? = some (D.int IntKind.i64 x.sign) ∧ (qz x (↑d : Int))[1]? = some (ib (db 2 x.natAbs)) ∧ (qz x (↑d : Int))[2]? = some (D.int IntKind.i64 (↑d : Int).sign) ∧ (qz x (↑d : Int))[3]? = some (ib (db 2 (↑d : Int).natAbs))) ∧ Fn Try.prog 177 [V.d (D.lst l.length (List.take (l.length * 4) (List.drop 0 (fm q1 l)))), V.agg [D.int IntKind.i64 x.sign, ib (db 2 x.natAbs), D.int IntKind.i64 (↑d : Int).sign, ib (db 2 (↑d : Int).natAbs)]] [] (V.agg [D.int IntKind.i64 ((↑d : Int) * hb (fun k => l.getD k (0 : Int)) l.length x (↑d : Int)).sign, ib (db 2 ((↑d : Int) * hb (fun k => l.getD k (0 : Int)) l.length x (↑d : Int)).natAbs), D.int IntKind.i64 ((↑d : Int) ^ l.length).sign, ib (db 2 ((↑d : Int) ^ l.length).natAbs)]) [] ∧ 0 + (qz ((↑d : Int) * hb (fun k => l.getD k (0 : Int)) l.length x (↑d : Int)) ((↑d : Int) ^ l.length)).length ≤ [D.int IntKind.i64 (0 : Int), D.lst 0 [], D.int IntKind.i64 (0 : Int), D.lst 0 []].length ∧ K (St.mk [(4, V.ptr 1 0)] [(0, some (Blk.mk [D.int IntKind.i64 x.sign, ib (db 2 x.natAbs), D.int IntKind.i64 (↑d : Int).sign, ib (db 2 (↑d : Int).natAbs)] true)), (1, some (Blk.mk [D.int IntKind.i64 ((↑d : Int) * hb (fun k => l.getD k (0 : Int)) l.length x (↑d : Int)).sign, ib (db 2 ((↑d : Int) * hb (fun k => l.getD k (0 : Int)) l.length x (↑d : Int)).natAbs), D.int IntKind.i64 ((↑d : Int) ^ l.length).sign, ib (db 2 ((↑d : Int) ^ l.length).natAbs)] true)), (2, some (Blk.mk (fm q1 l) false))] 7)) (fun K => by kernel_rfl) ?_
  rw [List.drop_zero, List.take_of_length_le (by simp)]
  exact ⟨⟨rfl, rfl, rfl, rfl⟩, hv, by simp [qz, zc], awp_ret ⟨.inl rfl, retC (l := true) rfl rfl rfl rfl⟩⟩

theorem hb_one (x : Int) : ∀ (n : Nat) (c : Nat → Int), hb c n x 1 = evn c n x
  | 0, c => rfl
  | n + 1, c => by rw [hb, evn, Int.one_pow, Int.mul_one, hb_one x n]
theorem evalI {i n K L : Nat} {ps : List RI} {s : Bool} {l : List Nat} (hi : i ≤ 12) (hp : W i ps) (hf : Bd n K (pol ps)) (hn : ps.length ≤ n) (dl : Dg l) (hl2 : l.length ≤ 2 ^ 36) (hx : (ival s l).natAbs < 2 ^ L) (hB : K + n * (L + 1) + L + 2 ≤ 2 ^ 36) :
    Fn Try.prog 93 [.d (rp ps), .agg (ic s l)] [] (.agg (iz ((pol ps).ev (ival s l)))) [] := by
  obtain ⟨x, hxe⟩ : ∃ x, x = ival s l := ⟨_, rfl⟩
  obtain ⟨f, hfe⟩ : ∃ f, f = pol ps := ⟨_, rfl⟩
  have hev : f.ev x = hb f.c ps.length x 1 := by rw [hb_one, ← ev_eq (f := f) (fun k hk => by rw [hfe]; exact co_beyond hk)]
  rw [← hxe, ← hfe, hev]
  rw [← hxe] at hx
  rw [← hfe] at hf
  obtain ⟨N, hN⟩ : ∃ N, N = ps.length := ⟨_, rfl⟩
  rw [← hN]
  rw [← hN] at hn
  have h2 := lim2 hi
  have h4 := lim4 hi
  have hpl := hp.len
  have hNb : N ≤ 409600 := by omega
  have hL0 : 1 ≤ L ∨ L = 0 := by omega
  have hHb : ∀ k, (hbt f.c N k x 1).natAbs < 2 ^ (K + n * (L + 1) + 1) := fun k => by
    have e : hbt f.c N k x 1 = evn (fun j => f.c (k + j)) (N - k) x := hb_one _ _ _
    have key : ∀ (m : Nat) (c : Nat → Int), (∀ j, (c j).natAbs < 2 ^ K) → (evn c m x).natAbs < 2 ^ (K + m * (L + 1) + 1) := fun m => by
      induction m with
      | zero => intro c _; exact Nat.pow_pos (by omega)
      | succ m ih =>
        intro c hc
        rw [evn]
        have h1 := ih (fun k => c (k + 1)) fun j => hc _
        have h2 := hc 0
        have h3 := mul_lt2 hx h1
        have h4 := Int.natAbs_add_le (c 0) (x * evn (fun k => c (k + 1)) m x)
        rw [Int.natAbs_mul] at h4
        have h5 : 2 ^ K ≤ 2 ^ (L + (K + m * (L + 1) + 1)) := pw (by omega)
        rw [show K + (m + 1) * (L + 1) + 1 = L + (K + m * (L + 1) + 1) + 1 by rw [Nat.succ_mul]; omega, Nat.pow_succ]
        omega
    rw [e]
    exact Nat.lt_of_lt_of_le (key _ _ fun j => hf.ok _) (pw (by have := Nat.mul_le_mul_right (L + 1) (show N - k ≤ n by omega); omega))
  refine fn0 (nt := 24) (res := [.cell 4 46]) Try.func93 rfl (by decide) rfl rfl rfl rfl ?_
  intro Cx hP hnt hl
  refine awp_sx prog_ok hP hnt [] [] [] [0, 3, 4] (by kernel_rfl) (G := fun K => K (St.mk [(0, V.d (rp ps)), (3, V.ptr 0 0), (4, V.ptr 1 0)] [(0, some (Blk.mk [D.bool s, du l] true)), (1, some (Blk.mk [D.bool false, D.lst 0 []] true))] 2)) (fun K => by kernel_rfl) ?_
  refine awp_sx prog_ok hP hnt [] [] [] [0, 3, 4, 5] (by kernel_rfl) (G := fun K => 2 ≤ (TI.mk (Kind.struct [(0, 1), (1, 1)]) 2 32 [D.bool false, D.lst 0 []]).zero.length ∧ K (St.mk [(0, V.d (rp ps)), (3, V.ptr 0 0), (4, V.ptr 1 0), (5, V.ptr 3 0)] [(0, some (Blk.mk [D.bool s, du l] true)), (1, some (Blk.mk [D.bool false, D.lst 0 []] true)), (3, some (Blk.mk [D.bool false, D.lst 0 []] true))] 5)) (fun K => by kernel_rfl) ?_
  refine ⟨by simp, ?_⟩
  refine awp_cut (ι := Unit) (fun _ => ⟨[(4, .ptr 0 0), (5, .ptr 1 0)], [(0, some ⟨[.bool false, .lst 0 []], true⟩), (1, some ⟨iz (hb f.c N x 1), true⟩)], 2⟩) (fun _ => True) ?_ ?_
  · refine awp_sx prog_ok hP hnt [(10, .int .i64 ((N : Int) - 1))] [] [] [0, 3, 4, 5, 6] (by kernel_rfl) (G := fun K => IntKind.i64.wrap ((↑ps.length : Int) - (1 : Int)) = (↑N : Int) - (1 : Int) ∧ K (St.mk [(0, V.d (rp ps)), (3, V.ptr 0 0), (4, V.ptr 1 0), (5, V.ptr 3 0), (6, V.d (D.int IntKind.i64 ((↑N : Int) - (1 : Int))))] [(0, some (Blk.mk [D.bool s, du l] true)), (1, some (Blk.mk [D.bool false, D.lst 0 []] true)), (3, some (Blk.mk [D.bool false, D.lst 0 []] true))] 9)) (fun K => by kernel_rfl) ?_
    refine ⟨by rw [← hN, w64] <;> omega, ?_⟩
    refine awp_block ?_
    refine awp_loop (ι := Nat) (fun j => ⟨[(0, .d (rp ps)), (3, .ptr 0 0), (4, .ptr 1 0), (5, .ptr 2 0), (6, .d (.int .i64 ((N : Int) - 1 - j)))], [(0, some ⟨ic s l, true⟩), (1, some ⟨[.bool false, .lst 0 []], true⟩), (2, some ⟨iz (hbt f.c N (N - j) x 1), true⟩)], 3⟩)
      (fun j => j ≤ N) (fun j => N - j) 0 [(0, 0), (1, 1), (2, 3)] (by omega) ?_ ?_
    · have e1 : iz (hbt f.c N N x 1) = [.bool false, .lst 0 []] := by rw [hbt_top]; simp [iz, dig_zero, du, u32s]
      rw [Nat.sub_zero, e1]
      (constructor <;> simp [hl, envOk, memOk, conv, St.get, St.blk, ic])
    intro j hj
    refine awp_seq_k fun K1 hK1 => ?_
    refine awp_sx prog_ok hP hnt [] [] [] [0, 3, 4, 5, 6, 12] (by kernel_rfl) (G := fun K => K (St.mk [(0, V.d (rp ps)), (3, V.ptr 0 0), (4, V.ptr 1 0), (5, V.ptr 2 0), (6, V.d (D.int IntKind.i64 ((↑N : Int) - (1 : Int) - (↑j : Int)))), (12, V.d (D.bool (decide ((↑N : Int) - (1 : Int) - (↑j : Int) ≥ (0 : Int)))))] [(0, some (Blk.mk [D.bool s, du l] true)), (1, some (Blk.mk [D.bool false, D.lst 0 []] true)), (2, some (Blk.mk [D.bool (decide (hbt f.c N (N - j) x (1 : Int) < (0 : Int))), du (dig (hbt f.c N (N - j) x (1 : Int)).natAbs)] true))] 5)) (fun K => by kernel_rfl) ?_
    refine awp_cond rfl (fun e => awp_skip (hK1 _ ?_)) (fun e => awp_exit ⟨(), [(0, 1), (1, 2)], trivial, ?_⟩)
    · simp at e
      have ej : (N : Int) - 1 - j = ((N - 1 - j : Nat) : Int) := by omega
      rw [ej]
      obtain ⟨i0, hi0⟩ : ∃ i0, i0 = N - 1 - j := ⟨_, rfl⟩
      rw [← hi0]
      obtain ⟨p, hp1⟩ := get_ex (l := ps) (i := i0) (by omega)
      have hpo := hp.ok p (List.mem_of_getElem? hp1)
      have hfx : ival p.1 p.2 = f.c i0 := by rw [hfe, pol_c, co_some hp1]; rfl
      have hst := hbt_step f.c (n := N) (i := i0) (by omega) x 1
      rw [show i0 + 1 = N - j by omega, Int.one_pow, Int.one_mul] at hst
      obtain ⟨A, hA⟩ : ∃ A, A = hbt f.c N (N - j) x 1 := ⟨_, rfl⟩
      have hAb := hHb (N - j)
      rw [← hA] at hst hAb ⊢
      have m1 := mulI3 (s := s) (l := l) (y := A) (L := K + n * (L + 1) + 1) dl hl2 hAb (by omega)
      rw [← hxe] at m1
      have b1 : (A * x).natAbs < 2 ^ (K + n * (L + 1) + 1 + L) := by rw [Int.natAbs_mul]; exact mul_lt2 hAb hx
      have ad := iadd_fn (riz (A * x)).1 p.1 (riz (A * x)).2 p.2 (by have := (riz_bits b1 (by omega)).2; omega) (by have := hpo.2; omega) (dig_lt _) hpo.1
      rw [show ival (riz (A * x)).1 (riz (A * x)).2 = A * x from rval_riz _, hfx, ← hst] at ad
      refine awp_seq_k fun K2 hK2 => ?_
      refine awp_block ?_
      refine awp_x prog_ok hP hnt [] [.val (.agg (iz (A * x))), .val (.agg (iz (hbt f.c N i0 x 1)))] [some (iz A), some (ic s l), some [.bool p.1, du p.2]] [0, 3, 4, 5, 6] (by kernel_rfl) (G := fun K => ([D.bool (decide (A < (0 : Int))), du (dig A.natAbs)][0]? = some (D.bool (decide (A < (0 : Int)))) ∧ [D.bool (decide (A < (0 : Int))), du (dig A.natAbs)][1]? = some (du (dig A.natAbs))) ∧ ([D.bool s, du l][0]? = some (D.bool s) ∧ [D.bool s, du l][1]? = some (du l)) ∧ Fn Try.prog 123 [V.agg [D.bool (decide (A < (0 : Int))), du (dig A.natAbs)], V.agg [D.bool s, du l]] [] (V.agg [D.bool (decide (A * x < (0 : Int))), du (dig (A * x).natAbs)]) [] ∧ ((0 : Int) ≤ (↑i0 : Int) ∧ (↑i0 : Int) < (↑ps.length : Int) ∧ ((↑i0 : Int).toNat + 1) * 2 ≤ (rc ps).length) ∧ ((List.drop ((↑i0 : Int).toNat * 2) (rc ps))[0]? = some (D.bool p.fst) ∧ (List.drop ((↑i0 : Int).toNat * 2) (rc ps))[1]? = some (du p.snd)) ∧ Fn Try.prog 96 [V.agg [D.bool (decide (A * x < (0 : Int))), du (dig (A * x).natAbs)], V.agg [D.bool p.fst, du p.snd]] [] (V.agg [D.bool (decide (hbt f.c N i0 x (1 : Int) < (0 : Int))), du (dig (hbt f.c N i0 x (1 : Int)).natAbs)]) [] ∧ 0 + (iz (hbt f.c N i0 x (1 : Int))).length ≤ [D.bool (decide (A < (0 : Int))), du (dig A.natAbs)].length ∧ K (St.mk [(0, V.d (rp ps)), (3, V.ptr 0 0), (4, V.ptr 1 0), (5, V.ptr 2 0), (6, V.d (D.int IntKind.i64 (↑i0 : Int)))] [(0, some (Blk.mk [D.bool s, du l] true)), (1, some (Blk.mk [D.bool false, D.lst 0 []] true)), (2, some (Blk.mk [D.bool (decide (hbt f.c N i0 x (1 : Int) < (0 : Int))), du (dig (hbt f.c N i0 x (1 : Int)).natAbs)] true))] 14)) (fun K => by kernel_rfl) ?_
      refine ⟨⟨rfl, rfl⟩, ⟨rfl, rfl⟩, m1, ⟨by omega, by omega, by simp; omega⟩, by rw [rc_drop0 hp1]; exact ⟨rfl, rfl⟩, ad, by simp [iz], hK2 _ ?_⟩
      refine awp_x prog_ok hP hnt [(14, .int .i64 ((N : Int) - 1 - (j + 1 : Nat)))] [] [] [0, 3, 4, 5, 6] (by kernel_rfl) (G := fun K => IntKind.i64.wrap ((↑i0 : Int) - (1 : Int)) = (↑N : Int) - (1 : Int) - (↑(j + 1) : Int) ∧ K (St.mk [(0, V.d (rp ps)), (3, V.ptr 0 0), (4, V.ptr 1 0), (5, V.ptr 2 0), (6, V.d (D.int IntKind.i64 ((↑N : Int) - (1 : Int) - (↑(j + 1) : Int))))] [(0, some (Blk.mk [D.bool s, du l] true)), (1, some (Blk.mk [D.bool false, D.lst 0 []] true)), (2, some (Blk.mk [D.bool (decide (hbt f.c N i0 x (1 : Int) < (0 : Int))), du (dig (hbt f.c N i0 x (1 : Int)).natAbs)] true))] 17)) (fun K => by kernel_rfl) ?_
      refine ⟨by rw [w64] <;> omega, j + 1, [(0, 0), (1, 1), (2, 2)], ⟨by omega, by omega⟩, ?_⟩
      rw [show N - (j + 1) = i0 by omega]
      (constructor <;> simp [hl, envOk, memOk, conv, St.get, St.blk, iz, ic, setCells])
    · simp at e
      have : j = N := by omega
      subst this
      rw [Nat.sub_self, hbt_zero]
      (constructor <;> simp [hl, envOk, memOk, conv, St.get, St.blk, iz])
  intro _ _
  refine awp_sx prog_ok hP hnt [] [] [some (iz (hb f.c N x 1))] [4] (by kernel_rfl) (G := fun K => ((iz (hb f.c N x (1 : Int)))[0]? = some (D.bool (decide (hb f.c N x (1 : Int) < (0 : Int)))) ∧ (iz (hb f.c N x (1 : Int)))[1]? = some (du (dig (hb f.c N x (1 : Int)).natAbs))) ∧ 0 + (iz (hb f.c N x (1 : Int))).length ≤ [D.bool false, D.lst 0 []].length ∧ K (St.mk [(4, V.ptr 0 0)] [(0, some (Blk.mk [D.bool (decide (hb f.c N x (1 : Int) < (0 : Int))), du (dig (hb f.c N x (1 : Int)).natAbs)] true)), (1, some (Blk.mk [D.bool (decide (hb f.c N x (1 : Int) < (0 : Int))), du (dig (hb f.c N x (1 : Int)).natAbs)] true))] 4)) (fun K => by kernel_rfl) ?_
  exact ⟨⟨rfl, rfl⟩, by simp [iz], awp_ret ⟨.inl rfl, retC (l := true) rfl rfl rfl rfl⟩⟩
end Go.Abs

set_option linter.unusedVariables false
set_option linter.unusedSimpArgs false
namespace Go.Abs
open Go Go.Proofs Poly
set_option maxRecDepth 100000

theorem hb_frac (f : Poly) (X : Int) {D : Nat} (hD : D ≠ 0) : mkRat (D * hb f.c f.sz X D) (D ^ f.sz) = evQ f (mkRat X D) := by
  have hDi : ((D : Int)) ≠ 0 := by omega
  have hDr : (0 : Rat) < (((D : Int)) : Rat) := Rat.intCast_pos.2 (by omega)
  rcases Nat.eq_zero_or_pos f.sz with h | h
  · rw [evQ, h]
    show mkRat (D * 0) (D ^ 0) = 0
    rw [Int.mul_zero]; simp [Rat.mkRat_def]
  · obtain ⟨n, hn⟩ : ∃ n, f.sz = n + 1 := ⟨f.sz - 1, by omega⟩
    have h1 := hb_evr (x := X) hDi n f.c
    have hq : ((X : Rat)) / (((D : Int)) : Rat) = mkRat X D := by rw [Rat.mkRat_eq_div]; rfl
    rw [hq] at h1
    rw [evQ, hn, Rat.mkRat_eq_div, Rat.intCast_mul, h1]
    have e2 : (((D ^ (n + 1) : Nat)) : Rat) = (((D : Int)) : Rat) ^ (n + 1) := by rw [Rat.natCast_pow]; rfl
    rw [e2]
    have hP : (0 : Rat) < (((D : Int)) : Rat) ^ (n + 1) := Rat.pow_pos hDr
    have e3 : (((D : Int)) : Rat) * ((((D : Int)) : Rat) ^ n * evr f.c (n + 1) (mkRat X D)) = evr f.c (n + 1) (mkRat X D) * (((D : Int)) : Rat) ^ (n + 1) := by rw [Rat.pow_succ]; grind
    rw [e3, Rat.mul_div_cancel (Ne.symm (Rat.ne_of_lt hP))]

theorem evals_fn (a : List RI) (v : RI × List Nat) (da : ∀ p ∈ a, Dg p.2) (dv : Dg v.1.2 ∧ Dg v.2) : Fn Try.prog 11 [.d (rp a), .agg (rawR v)] [] (.d (.bool true)) [] := by
  refine fn0 (nt := 83) (res := [.tmp 4]) Try.func11 rfl (by decide) rfl rfl rfl rfl ?_
  intro Cx hP hnt hl
  have fa := few_fn 10 3 a (by omega) (by omega)
  have fv := few01_two v
  obtain ⟨⟨vs1, vl⟩, vd⟩ := v
  simp only at dv fv ⊢
  obtain ⟨E, hE⟩ : ∃ E, E = (decide (vl.length ≤ 2) && decide (vd.length ≤ 2)) := ⟨_, rfl⟩
  rw [← hE] at fv
  refine awp_sx prog_ok hP hnt [] [] [] [0, 3] (by kernel_rfl) (G := fun K => K (St.mk [(0, V.d (rp a)), (3, V.ptr 0 0)] [(0, some (Blk.mk [D.bool (vs1, vl).fst, du (vs1, vl).snd, du vd] true))] 2)) (fun K => by kernel_rfl) ?_
  refine awp_seq_k fun K hK => ?_
  cases ea : few 10 3 a with
  | false =>
    rw [ea] at fa
    refine awp_sx prog_ok hP hnt [(16, .bool true), (26, .bool true)] [.val (.d (.bool true)), .val (.d (.bool false))] [] [0, 3, 26] (by kernel_rfl) (G := fun K => Fn Try.prog 38 [] [] (V.d (D.bool true)) [] ∧ Fn Try.prog 39 [V.d (D.int IntKind.i64 (10 : Int)), V.d (D.int IntKind.i64 (3 : Int)), V.d (rp a)] [] (V.d (D.bool false)) [] ∧ (!false) = true ∧ true = true ∧ K (St.mk [(0, V.d (rp a)), (3, V.ptr 0 0), (26, V.d (D.bool true))] [(0, some (Blk.mk [D.bool vs1, du vl, du vd] true))] 19)) (fun K => by kernel_rfl) ?_
    refine ⟨awake_fn, fa, rfl, rfl, awp_cond (b := true) rfl (fun _ => ?_) nofun⟩
    refine awp_sx prog_ok hP hnt [] [.val (.d (.bool true))] [] [4] (by kernel_rfl) (G := fun K => Fn Try.prog 38 [] [] (V.d (D.bool true)) [] ∧ K (St.mk [(4, V.d (D.bool true))] [(0, some (Blk.mk [D.bool vs1, du vl, du vd] true))] 21)) (fun K => by kernel_rfl) ?_
    exact ⟨awake_fn, awp_ret ⟨.inl rfl, retD rfl⟩⟩
  | true =>
  rw [ea] at fa
  cases E with
  | false =>
    refine awp_sx prog_ok hP hnt [(16, .bool false), (26, .bool true)] [.val (.d (.bool true)), .val (.d (.bool true)), .val (.d (.bool false))] [] [0, 3, 26] (by kernel_rfl) (G := fun K => Fn Try.prog 38 [] [] (V.d (D.bool true)) [] ∧ Fn Try.prog 39 [V.d (D.int IntKind.i64 (10 : Int)), V.d (D.int IntKind.i64 (3 : Int)), V.d (rp a)] [] (V.d (D.bool true)) [] ∧ (!true) = false ∧ Fn Try.prog 89 [V.d (D.int IntKind.i64 (2 : Int)), V.d (D.lst 2 [du vl, du vd])] [] (V.d (D.bool false)) [] ∧ (!false) = true ∧ K (St.mk [(0, V.d (rp a)), (3, V.ptr 0 0), (26, V.d (D.bool true))] [(0, some (Blk.mk [D.bool vs1, du vl, du vd] true))] 19)) (fun K => by kernel_rfl) ?_
    refine ⟨awake_fn, fa, rfl, fv, rfl, awp_cond (b := true) rfl (fun _ => ?_) nofun⟩
    refine awp_sx prog_ok hP hnt [] [.val (.d (.bool true))] [] [4] (by kernel_rfl) (G := fun K => Fn Try.prog 38 [] [] (V.d (D.bool true)) [] ∧ K (St.mk [(4, V.d (D.bool true))] [(0, some (Blk.mk [D.bool vs1, du vl, du vd] true))] 21)) (fun K => by kernel_rfl) ?_
    exact ⟨awake_fn, awp_ret ⟨.inl rfl, retD rfl⟩⟩
  | true =>
  have hE2 : vl.length ≤ 2 ∧ vd.length ≤ 2 := by
    have := hE.symm
    simpa using this
  refine awp_sx prog_ok hP hnt [(16, .bool false), (26, .bool false)] [.val (.d (.bool true)), .val (.d (.bool true)), .val (.d (.bool true))] [] [0, 3, 26] (by kernel_rfl) (G := fun K => Fn Try.prog 38 [] [] (V.d (D.bool true)) [] ∧ Fn Try.prog 39 [V.d (D.int IntKind.i64 (10 : Int)), V.d (D.int IntKind.i64 (3 : Int)), V.d (rp a)] [] (V.d (D.bool true)) [] ∧ (!true) = false ∧ Fn Try.prog 89 [V.d (D.int IntKind.i64 (2 : Int)), V.d (D.lst 2 [du vl, du vd])] [] (V.d (D.bool true)) [] ∧ (!true) = false ∧ K (St.mk [(0, V.d (rp a)), (3, V.ptr 0 0), (26, V.d (D.bool false))] [(0, some (Blk.mk [D.bool vs1, du vl, du vd] true))] 19)) (fun K => by kernel_rfl) ?_
  refine ⟨awake_fn, fa, rfl, fv, rfl, awp_cond (b := false) rfl nofun fun _ => awp_skip (hK _ ?_)⟩
  have wa := few_w da ea (by omega) (by omega)
  have ba := few_bd da ea
  have la := (of_decide_eq_true ea).1
  have hxb := val_bits (s := vs1) dv.1 hE2.1
  have hr := rawR_ok (c := ((vs1, vl), vd)) (K := 2) dv.1 dv.2 hE2.1 hE2.2
  have hq := rawR_b (c := ((vs1, vl), vd)) (K := 2) dv.1 dv.2 hE2.1 hE2.2 (by omega)
  simp only at hr hq
  obtain ⟨q, hqe⟩ : ∃ q, q = mkRat (ival vs1 vl) (val vd) := ⟨_, rfl⟩
  rw [← hqe] at hr hq
  have oa := ofL (by omega) wa
  have v1 := evalRatR (i := 0) (n := 10) (K := 96) (L := 64) (by omega) wa ba hr (by omega) hq (by omega)
  have v2 := signAtR (i := 0) (n := 10) (K := 96) (L := 64) (by omega) wa ba hr (by omega) hq (by omega)
  have v3 := evalI (i := 0) (n := 10) (K := 96) (L := 64) (s := vs1) (l := vl) (by omega) wa ba la dv.1 (by omega) hxb (by omega)
  have z1 := z_fn vs1 vl dv.1 (by omega)
  have z2 := zsmall_fn 1 (by decide)
  have z3 := qof_fn vs1 vl vd dv.1 dv.2 (by omega) (by omega)
  obtain ⟨f, hf⟩ : ∃ f, f = pol a := ⟨_, rfl⟩
  rw [← hf] at ba oa v1 v2 v3
  obtain ⟨X, hX⟩ : ∃ X, X = (if val vd = 0 then 0 else ival vs1 vl) := ⟨_, rfl⟩
  obtain ⟨Dn, hDn⟩ : ∃ Dn : Nat, Dn = (if val vd = 0 then 1 else val vd) := ⟨_, rfl⟩
  have eD : (if val vd = 0 then (1 : Int) else (val vd : Int)) = (Dn : Int) := by rw [hDn]; split <;> rfl
  rw [← hX, eD] at z3
  have hD0 : Dn ≠ 0 := by rw [hDn]; split <;> omega
  have hXq : mkRat X Dn = q := by
    rw [hX, hDn, hqe]
    split
    · rename_i h; rw [h]; simp [Rat.mkRat_def]
    · rfl
  obtain ⟨x0, hx0⟩ : ∃ x0, x0 = ival vs1 vl := ⟨_, rfl⟩
  rw [← hx0] at hX hxb v3 z1
  have hXb : X.natAbs < 2 ^ 64 := by rw [hX]; split; · decide
                                     · exact hxb
  have hDb : Dn < 2 ^ 64 := by rw [hDn]; split; · decide
                               · exact val_lt2 dv.2 hE2.2
  have hcsl : (cs f).length ≤ 10 := by rw [cs_len]; exact ba.len
  have w1 := val08_fn (cs f) X Dn (K := 96) (L := 64) (Bz.cs ba.ok) hXb hDb (by omega) (by omega)
  have w2 := val08_fn (cs f) x0 1 (K := 96) (L := 64) (Bz.cs ba.ok) hxb (by decide) (by omega) (by omega)
  rw [show (fun k => (cs f).getD k 0) = f.c from funext fun k => cs_getD f k, cs_len] at w1 w2
  have e1 : ((1 : Nat) : Int) * hb f.c f.sz x0 (1 : Nat) = f.ev x0 := by
    rw [show ((1 : Nat) : Int) = 1 from rfl, Int.one_mul, hb_one, ev_eq (n := f.sz) (fun k hk => above hk)]
  rw [e1, show ((1 : Nat) : Int) = 1 from rfl, Int.one_pow] at w2
  have hfr := hb_frac f X hD0
  rw [hXq] at hfr
  have hhb := hb_b (K := 96) hXb (show ((Dn : Int)).natAbs < 2 ^ 64 by simpa using hDb) f.sz ba.ok
  have hpb := pow_b (x := (Dn : Int)) (L := 64) (by simpa using hDb) f.sz
  rw [← Int.natCast_pow] at w1 hpb
  have hfl := ba.len
  obtain ⟨Y, hY⟩ : ∃ Y, Y = (Dn : Int) * hb f.c f.sz X Dn := ⟨_, rfl⟩
  obtain ⟨P, hP0⟩ : ∃ P, P = Dn ^ f.sz := ⟨_, rfl⟩
  have hP1 : P ≠ 0 := by rw [hP0]; exact Nat.ne_of_gt (Nat.pow_pos (Nat.pos_of_ne_zero hD0))
  obtain ⟨BB, hBB⟩ : ∃ BB, BB = 1000 := ⟨_, rfl⟩
  have hYb : Y.natAbs < 2 ^ BB := by
    rw [hY, Int.natAbs_mul]
    refine Nat.lt_of_lt_of_le (mul_lt2 (show ((Dn : Int)).natAbs < 2 ^ 64 by simpa using hDb) hhb) (pw (by omega))
  rw [← hP0] at hpb
  rw [Int.natAbs_natCast] at hpb
  have hPb : P < 2 ^ BB := Nat.lt_of_lt_of_le hpb (pw (by omega))
  rw [← hY, ← hP0] at hfr w1
  have hsgn : (evQ f q).num.sign = Y.sign := by rw [← hfr, mkRat_sign _ hP1]
  have hevb : (f.ev x0).natAbs < 2 ^ BB := by
    rw [ev_eq (n := f.sz) (fun k hk => above hk), ← hb_one]
    exact Nat.lt_of_lt_of_le (hb_b (K := 96) hxb (by decide) f.sz ba.ok) (pw (by omega))
  have i1 := qis_fn Y P hP1 (K := BB) (by omega) hYb hPb (evQ f q) hfr
  have i2 := zisT (f.ev x0) (K := BB) (by omega) hevb
  rw [hsgn] at v2
  refine awp_sx prog_ok hP hnt [] [.val (.d (zl (cs f)))] [] [0, 3, 5] (by kernel_rfl) (G := fun K => Fn Try.prog 40 [V.d (rp a)] [] (V.d (zl (cs f))) [] ∧ K (St.mk [(0, V.d (rp a)), (3, V.ptr 0 0), (5, V.d (zl (cs f)))] [(0, some (Blk.mk [D.bool vs1, du vl, du vd] true))] 22)) (fun K => by kernel_rfl) ?_
  refine ⟨oa, ?_⟩
  refine awp_sx prog_ok hP hnt [] [.val (.agg (qz X Dn)), .val (.agg (qz Y P))] [some [.bool vs1], some [du vl], some [du vd]] [0, 3, 5, 6] (by kernel_rfl) (G := fun K => [D.bool vs1, du vl, du vd][0]? = some (D.bool vs1) ∧ [D.bool vs1, du vl, du vd][1]? = some (du vl) ∧ [D.bool vs1, du vl, du vd][2]? = some (du vd) ∧ Fn Try.prog 91 [V.d (D.bool vs1), V.d (du vl), V.d (du vd)] [] (V.agg [D.int IntKind.i64 X.sign, ib (db 2 X.natAbs), D.int IntKind.i64 (↑Dn : Int).sign, ib (db 2 (↑Dn : Int).natAbs)]) [] ∧ Fn Try.prog 90 [V.d (zl (cs f)), V.agg [D.int IntKind.i64 X.sign, ib (db 2 X.natAbs), D.int IntKind.i64 (↑Dn : Int).sign, ib (db 2 (↑Dn : Int).natAbs)]] [] (V.agg [D.int IntKind.i64 Y.sign, ib (db 2 Y.natAbs), D.int IntKind.i64 (↑P : Int).sign, ib (db 2 (↑P : Int).natAbs)]) [] ∧ 0 + (qz Y (↑P : Int)).length ≤ (TI.mk (Kind.struct [(0, 2), (2, 2)]) 4 64 [D.int IntKind.i64 (0 : Int), D.lst 0 [], D.int IntKind.i64 (0 : Int), D.lst 0 []]).zero.length ∧ K (St.mk [(0, V.d (rp a)), (3, V.ptr 0 0), (5, V.d (zl (cs f))), (6, V.ptr 33 0)] [(0, some (Blk.mk [D.bool vs1, du vl, du vd] true)), (33, some (Blk.mk [D.int IntKind.i64 Y.sign, ib (db 2 Y.natAbs), D.int IntKind.i64 (↑P : Int).sign, ib (db 2 (↑P : Int).natAbs)] true))] 35)) (fun K => by kernel_rfl) ?_
  refine ⟨rfl, rfl, rfl, z3, w1, by simp [qz, zc], ?_⟩
  refine awp_sx prog_ok hP hnt [] [.val (.agg (rq (evQ f q)))] [some (rawR ((vs1, vl), vd))] [0, 3, 5, 6, 7] (by kernel_rfl) (G := fun K => ([D.bool vs1, du vl, du vd][0]? = some (D.bool (vs1, vl).fst) ∧ [D.bool vs1, du vl, du vd][1]? = some (du (vs1, vl).snd) ∧ [D.bool vs1, du vl, du vd][2]? = some (du vd)) ∧ Fn Try.prog 92 [V.d (rp a), V.agg [D.bool (vs1, vl).fst, du (vs1, vl).snd, du vd]] [] (V.agg [D.bool (decide ((evQ f q).num < (0 : Int))), du (dig (evQ f q).num.natAbs), du (dig (evQ f q).den)]) [] ∧ 0 + (rq (evQ f q)).length ≤ (TI.mk (Kind.struct [(0, 2), (2, 1)]) 3 56 [D.bool false, D.lst 0 [], D.lst 0 []]).zero.length ∧ K (St.mk [(0, V.d (rp a)), (3, V.ptr 0 0), (5, V.d (zl (cs f))), (6, V.ptr 33 0), (7, V.ptr 38 0)] [(0, some (Blk.mk [D.bool vs1, du vl, du vd] true)), (33, some (Blk.mk [D.int IntKind.i64 Y.sign, ib (db 2 Y.natAbs), D.int IntKind.i64 (↑P : Int).sign, ib (db 2 (↑P : Int).natAbs)] true)), (38, some (Blk.mk [D.bool (decide ((evQ f q).num < (0 : Int))), du (dig (evQ f q).num.natAbs), du (dig (evQ f q).den)] true))] 40)) (fun K => by kernel_rfl) ?_
  refine ⟨⟨rfl, rfl, rfl⟩, v1, by simp [rq, rt], ?_⟩
  refine awp_sx prog_ok hP hnt [] [.val (.agg (iz (f.ev x0)))] [some (ic vs1 vl)] [0, 3, 5, 6, 7, 8] (by kernel_rfl) (G := fun K => ([D.bool vs1, du vl, du vd][0]? = some (D.bool vs1) ∧ [D.bool vs1, du vl, du vd][1]? = some (du vl)) ∧ Fn Try.prog 93 [V.d (rp a), V.agg [D.bool vs1, du vl]] [] (V.agg [D.bool (decide (f.ev x0 < (0 : Int))), du (dig (f.ev x0).natAbs)]) [] ∧ 0 + (iz (f.ev x0)).length ≤ (TI.mk (Kind.struct [(0, 1), (1, 1)]) 2 32 [D.bool false, D.lst 0 []]).zero.length ∧ K (St.mk [(0, V.d (rp a)), (3, V.ptr 0 0), (5, V.d (zl (cs f))), (6, V.ptr 33 0), (7, V.ptr 38 0), (8, V.ptr 44 0)] [(0, some (Blk.mk [D.bool vs1, du vl, du vd] true)), (33, some (Blk.mk [D.int IntKind.i64 Y.sign, ib (db 2 Y.natAbs), D.int IntKind.i64 (↑P : Int).sign, ib (db 2 (↑P : Int).natAbs)] true)), (38, some (Blk.mk [D.bool (decide ((evQ f q).num < (0 : Int))), du (dig (evQ f q).num.natAbs), du (dig (evQ f q).den)] true)), (44, some (Blk.mk [D.bool (decide (f.ev x0 < (0 : Int))), du (dig (f.ev x0).natAbs)] true))] 46)) (fun K => by kernel_rfl) ?_
  refine ⟨⟨rfl, rfl⟩, v3, by simp [iz], ?_⟩
  refine awp_sx prog_ok hP hnt [] [.val (.agg (zc x0)), .val (.agg (zc 1)), .val (.agg (qz (f.ev x0) 1))] [some (ic vs1 vl)] [0, 3, 6, 7, 8, 9] (by kernel_rfl) (G := fun K => ([D.bool vs1, du vl, du vd][0]? = some (D.bool vs1) ∧ [D.bool vs1, du vl, du vd][1]? = some (du vl)) ∧ Fn Try.prog 52 [V.agg [D.bool vs1, du vl]] [] (V.agg [D.int IntKind.i64 x0.sign, ib (db 2 x0.natAbs)]) [] ∧ Fn Try.prog 41 [V.d (D.int IntKind.i64 (1 : Int))] [] (V.agg [D.int IntKind.i64 (Int.sign (1 : Int)), ib (db 2 (Int.natAbs (1 : Int)))]) [] ∧ Fn Try.prog 90 [V.d (zl (cs f)), V.agg [D.int IntKind.i64 x0.sign, ib (db 2 x0.natAbs), D.int IntKind.i64 (Int.sign (1 : Int)), ib (db 2 (Int.natAbs (1 : Int)))]] [] (V.agg [D.int IntKind.i64 (f.ev x0).sign, ib (db 2 (f.ev x0).natAbs), D.int IntKind.i64 (Int.sign (1 : Int)), ib (db 2 (Int.natAbs (1 : Int)))]) [] ∧ 0 + (qz (f.ev x0) (1 : Int)).length ≤ (TI.mk (Kind.struct [(0, 2), (2, 2)]) 4 64 [D.int IntKind.i64 (0 : Int), D.lst 0 [], D.int IntKind.i64 (0 : Int), D.lst 0 []]).zero.length ∧ K (St.mk [(0, V.d (rp a)), (3, V.ptr 0 0), (6, V.ptr 33 0), (7, V.ptr 38 0), (8, V.ptr 44 0), (9, V.ptr 53 0)] [(0, some (Blk.mk [D.bool vs1, du vl, du vd] true)), (33, some (Blk.mk [D.int IntKind.i64 Y.sign, ib (db 2 Y.natAbs), D.int IntKind.i64 (↑P : Int).sign, ib (db 2 (↑P : Int).natAbs)] true)), (38, some (Blk.mk [D.bool (decide ((evQ f q).num < (0 : Int))), du (dig (evQ f q).num.natAbs), du (dig (evQ f q).den)] true)), (44, some (Blk.mk [D.bool (decide (f.ev x0 < (0 : Int))), du (dig (f.ev x0).natAbs)] true)), (53, some (Blk.mk [D.int IntKind.i64 (f.ev x0).sign, ib (db 2 (f.ev x0).natAbs), D.int IntKind.i64 (Int.sign (1 : Int)), ib (db 2 (Int.natAbs (1 : Int)))] true))] 55)) (fun K => by kernel_rfl) ?_
  refine ⟨⟨rfl, rfl⟩, z1, z2, ?_, ?_⟩
  · exact w2
  refine ⟨by simp [qz, zc], ?_⟩
  refine awp_sx prog_ok hP hnt [(73, .bool true)] [.val (.d (.bool true)), .val (.d (.int .i64 Y.sign)), .val (.d (.bool true))] [some [.bool (riz (evQ f q).num).1], some [du (riz (evQ f q).num).2], some [du (dig (evQ f q).den)], some (qz Y P), some (rawR ((vs1, vl), vd)), some [.int .i64 Y.sign], some [.bool (riz (f.ev x0)).1], some [du (riz (f.ev x0)).2], some (zc (f.ev x0))] [4] (by kernel_rfl) (G := fun K => [D.bool (decide ((evQ f q).num < (0 : Int))), du (dig (evQ f q).num.natAbs), du (dig (evQ f q).den)][0]? = some (D.bool (riz (evQ f q).num).fst) ∧ [D.bool (decide ((evQ f q).num < (0 : Int))), du (dig (evQ f q).num.natAbs), du (dig (evQ f q).den)][1]? = some (du (riz (evQ f q).num).snd) ∧ [D.bool (decide ((evQ f q).num < (0 : Int))), du (dig (evQ f q).num.natAbs), du (dig (evQ f q).den)][2]? = some (du (dig (evQ f q).den)) ∧ ([D.int IntKind.i64 Y.sign, ib (db 2 Y.natAbs), D.int IntKind.i64 (↑P : Int).sign, ib (db 2 (↑P : Int).natAbs)][0]? = some (D.int IntKind.i64 Y.sign) ∧ [D.int IntKind.i64 Y.sign, ib (db 2 Y.natAbs), D.int IntKind.i64 (↑P : Int).sign, ib (db 2 (↑P : Int).natAbs)][1]? = some (ib (db 2 Y.natAbs)) ∧ [D.int IntKind.i64 Y.sign, ib (db 2 Y.natAbs), D.int IntKind.i64 (↑P : Int).sign, ib (db 2 (↑P : Int).natAbs)][2]? = some (D.int IntKind.i64 (↑P : Int).sign) ∧ [D.int IntKind.i64 Y.sign, ib (db 2 Y.natAbs), D.int IntKind.i64 (↑P : Int).sign, ib (db 2 (↑P : Int).natAbs)][3]? = some (ib (db 2 (↑P : Int).natAbs))) ∧ Fn Try.prog 94 [V.d (D.bool (riz (evQ f q).num).fst), V.d (du (riz (evQ f q).num).snd), V.d (du (dig (evQ f q).den)), V.agg [D.int IntKind.i64 Y.sign, ib (db 2 Y.natAbs), D.int IntKind.i64 (↑P : Int).sign, ib (db 2 (↑P : Int).natAbs)]] [] (V.d (D.bool true)) [] ∧ ([D.bool vs1, du vl, du vd][0]? = some (D.bool (vs1, vl).fst) ∧ [D.bool vs1, du vl, du vd][1]? = some (du (vs1, vl).snd) ∧ [D.bool vs1, du vl, du vd][2]? = some (du vd)) ∧ Fn Try.prog 95 [V.d (rp a), V.agg [D.bool (vs1, vl).fst, du (vs1, vl).snd, du vd]] [] (V.d (D.int IntKind.i64 Y.sign)) [] ∧ [D.int IntKind.i64 Y.sign, ib (db 2 Y.natAbs), D.int IntKind.i64 (↑P : Int).sign, ib (db 2 (↑P : Int).natAbs)][0]? = some (D.int IntKind.i64 Y.sign) ∧ (Y.sign == Y.sign) = true ∧ [D.bool (decide (f.ev x0 < (0 : Int))), du (dig (f.ev x0).natAbs)][0]? = some (D.bool (riz (f.ev x0)).fst) ∧ [D.bool (decide (f.ev x0 < (0 : Int))), du (dig (f.ev x0).natAbs)][1]? = some (du (riz (f.ev x0)).snd) ∧ ([D.int IntKind.i64 (f.ev x0).sign, ib (db 2 (f.ev x0).natAbs), D.int IntKind.i64 (Int.sign (1 : Int)), ib (db 2 (Int.natAbs (1 : Int)))][0]? = some (D.int IntKind.i64 (f.ev x0).sign) ∧ [D.int IntKind.i64 (f.ev x0).sign, ib (db 2 (f.ev x0).natAbs), D.int IntKind.i64 (Int.sign (1 : Int)), ib (db 2 (Int.natAbs (1 : Int)))][1]? = some (ib (db 2 (f.ev x0).natAbs))) ∧ Fn Try.prog 69 [V.d (D.bool (riz (f.ev x0)).fst), V.d (du (riz (f.ev x0)).snd), V.agg [D.int IntKind.i64 (f.ev x0).sign, ib (db 2 (f.ev x0).natAbs)]] [] (V.d (D.bool true)) [] ∧ K (St.mk [(4, V.d (D.bool true))] [(0, some (Blk.mk [D.bool vs1, du vl, du vd] true)), (33, some (Blk.mk [D.int IntKind.i64 Y.sign, ib (db 2 Y.natAbs), D.int IntKind.i64 (↑P : Int).sign, ib (db 2 (↑P : Int).natAbs)] true)), (38, some (Blk.mk [D.bool (decide ((evQ f q).num < (0 : Int))), du (dig (evQ f q).num.natAbs), du (dig (evQ f q).den)] true)), (44, some (Blk.mk [D.bool (decide (f.ev x0 < (0 : Int))), du (dig (f.ev x0).natAbs)] true)), (53, some (Blk.mk [D.int IntKind.i64 (f.ev x0).sign, ib (db 2 (f.ev x0).natAbs), D.int IntKind.i64 (Int.sign (1 : Int)), ib (db 2 (Int.natAbs (1 : Int)))] true))] 84)) (fun K => by kernel_rfl) ?_
  exact ⟨rfl, rfl, rfl, ⟨rfl, rfl, rfl, rfl⟩, i1, ⟨rfl, rfl, rfl⟩, v2, rfl, by simp, rfl, rfl, ⟨rfl, rfl⟩, i2, awp_ret ⟨.inl rfl, retD rfl⟩⟩
end Go.Abs
