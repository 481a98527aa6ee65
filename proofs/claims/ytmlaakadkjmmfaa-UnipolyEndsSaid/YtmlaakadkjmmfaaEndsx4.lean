import Derived.WalkKit
import Derived.Orders
import Derived.Below
import Derived.Laws.AppendOwn
import Derived.Calls
import Derived.OpenShut
import Derived.ChangeArms
import Derived.ChangeShapes
import Derived.WideShapes
import Derived.KernelRfl
import Derived.JoinedOf
import Derived.Scope
import Derived.ProofKit
import Derived.ShutString
import Derived.ChangeOld
import Derived.SizedLaws
import Derived.Test.YtmlaakadkjmmfaaProg
import Derived.Test.YtmlaakadkjmmfaaEndsx0
import Derived.Test.YtmlaakadkjmmfaaEndsx1
import Derived.Test.YtmlaakadkjmmfaaEndsx2
import Derived.Test.YtmlaakadkjmmfaaEndsx3
/- Texts that the proof of UnipolyEnds leans on: what is told of the functions it reaches. -/
set_option linter.unusedVariables false
set_option linter.unusedSimpArgs false
namespace Go.Abs
open Go Go.Proofs
set_option maxRecDepth 100000

theorem shl_fn (l : List Nat) (s : Nat) (h : l.length ≤ 2 ^ 39) (hd : Dg l) (hs : s ≤ 16777216) :
    Fn Try.prog 154 [.d (du l), .d (.int .i64 s)] [] (.d (du (dig (val l * 2 ^ s)))) [] := by
  have := (shlO_fn l s h hd hs 0).freeze
  rwa [Nat.mul_one, own_du rfl] at this

/-- the digits of a divisor that is shifted until its top bit is 1 -/
theorem dig_shl {b : Nat} (hb : b ≠ 0) : ∃ t, (dig b)[(dig b).length - 1]? = some t ∧ t < 4294967296 ∧ blen t ≤ 32 ∧ (dig (b * 2 ^ (32 - blen t))).length = (dig b).length := by
  obtain ⟨t, h1, h2, h3, h4⟩ := dig_top hb
  have hp : 0 < (dig b).length := by have := mt dig_len0.1 hb; omega
  have hbl : blen t ≤ 32 := blen_iff.2 h3
  refine ⟨t, h1, h3, hbl, ?_⟩
  have hge := dig_ge (n := b) (k := (dig b).length - 1) (by omega)
  have hlt := blen_lt t
  have hub : b < (t + 1) * 4294967296 ^ ((dig b).length - 1) := by
    have hpw : 0 < 4294967296 ^ ((dig b).length - 1) := Nat.pow_pos (by omega)
    rw [h4]
    exact (Nat.div_lt_iff_lt_mul hpw).1 (Nat.lt_succ_self _)
  apply Nat.le_antisymm
  · refine dig_len ?_
    have e : 4294967296 ^ (dig b).length = 4294967296 ^ ((dig b).length - 1) * (2 ^ blen t * 2 ^ (32 - blen t)) := by
      rw [← Nat.pow_add, show blen t + (32 - blen t) = 32 by omega, show (2 : Nat) ^ 32 = 4294967296 from rfl, ← Nat.pow_succ]
      congr 1; omega
    have h5 : b * 2 ^ (32 - blen t) < (t + 1) * 4294967296 ^ ((dig b).length - 1) * 2 ^ (32 - blen t) := Nat.mul_lt_mul_of_pos_right hub (Nat.pow_pos (by omega))
    have h6 : (t + 1) * 4294967296 ^ ((dig b).length - 1) * 2 ^ (32 - blen t) ≤ 2 ^ blen t * 4294967296 ^ ((dig b).length - 1) * 2 ^ (32 - blen t) :=
      Nat.mul_le_mul_right _ (Nat.mul_le_mul_right _ hlt)
    rw [e]
    have h7 : 2 ^ blen t * 4294967296 ^ ((dig b).length - 1) * 2 ^ (32 - blen t) = 4294967296 ^ ((dig b).length - 1) * (2 ^ blen t * 2 ^ (32 - blen t)) := by
      generalize 4294967296 ^ ((dig b).length - 1) = z
      grind
    omega
  · rcases Nat.lt_or_ge (dig (b * 2 ^ (32 - blen t))).length (dig b).length with h | h
    · exfalso
      have h8 := dig_lt_of_len (n := b * 2 ^ (32 - blen t)) (k := (dig b).length - 1) (by omega)
      have h9 : b * 1 ≤ b * 2 ^ (32 - blen t) := Nat.mul_le_mul_left _ (Nat.pow_pos (by omega))
      omega
    · exact h

set_option maxHeartbeats 2000000 in
theorem long_fn (a b : List Nat) (ha : a.length ≤ 2 ^ 38) (hb : b.length ≤ 2 ^ 38) (da : Dg a) (db : Dg b) (h0 : val b ≠ 0) :
    Fn Try.prog 240 [.d (du a), .d (du b)] [] (.tup [.d (du (dig (val a / val b))), .d (du (dig (val a % val b)))]) [] := by
  refine fn0 (nt := 251) (res := [.tmp 4, .tmp 5]) Try.func240 rfl (by decide) rfl rfl rfl rfl ?_
  intro Cx hP hnt hl
  have hnb := nnorm_fn b (by omega) db
  have hlb := dig_le db
  obtain ⟨B, hB⟩ : ∃ B, B = val b := ⟨_, rfl⟩
  rw [← hB] at hnb hlb h0 ⊢
  have hBd := dig_lt B
  have hBv := val_dig B
  have hcmp := cmp_fn a (dig B) (by omega) (by omega) da hBd
  have hna := nnorm_fn a (by omega) da
  have hla := dig_le da
  rw [hBv] at hcmp
  refine awp_sx prog_ok hP hnt [] [] [] [0, 1] (by kernel_rfl) (G := fun K => K (St.mk [(0, V.d (du a)), (1, V.d (du b))] [] 2)) (fun K => by kernel_rfl) ?_
  refine awp_scope ?_
  refine awp_sx prog_ok hP hnt [] [.val (.d (du (dig B)))] [] [0, 1] (by kernel_rfl) (G := fun K => Fn Try.prog 230 [V.d (du b)] [] (V.d (du (dig B))) [] ∧ K (St.mk [(0, V.d (du a)), (1, V.d (du (dig B)))] [] 5)) (fun K => by kernel_rfl) ?_
  refine ⟨hnb, ?_⟩
  refine awp_seq_k fun K hK => ?_
  refine awp_sx prog_ok hP hnt [] [.val (.d (.int .i64 (cmpI (val a) B)))] [] [0, 1, 33] (by kernel_rfl) (G := fun K => Fn Try.prog 153 [V.d (du a), V.d (du (dig B))] [] (V.d (D.int IntKind.i64 (cmpI (val a) B))) [] ∧ K (St.mk [(0, V.d (du a)), (1, V.d (du (dig B))), (33, V.d (D.bool (decide (cmpI (val a) B < (0 : Int)))))] [] 9)) (fun K => by kernel_rfl) ?_
  refine ⟨hcmp, ?_⟩
  refine awp_cond rfl (fun e => ?_) (fun e => awp_skip (hK _ ?_))
  · have hlt : val a < B := by
      simp only [cmpI] at e
      split at e
      · simp at e
      · split at e
        · assumption
        · simp at e
    refine awp_sx prog_ok hP hnt [] [.val (.d (du (dig (val a))))] [] [4, 5] (by kernel_rfl) (G := fun K => Fn Try.prog 230 [V.d (du a)] [] (V.d (du (dig (val a)))) [] ∧ K (St.mk [(4, V.nil), (5, V.d (du (dig (val a))))] [] 13)) (fun K => by kernel_rfl) ?_
    rw [Nat.div_eq_of_lt hlt, Nat.mod_eq_of_lt hlt, dig_zero]
    exact ⟨hna, awp_ret ⟨.inl rfl, ret2Nil rfl rfl⟩⟩
  have hge : B ≤ val a := by
    rcases Nat.lt_or_ge (val a) B with h | h
    · rw [cmpI_lt h] at e; simp at e
    · exact h
  refine awp_sx prog_ok hP hnt [] [] [] [0, 1, 6] (by kernel_rfl) (G := fun K => K (St.mk [(0, V.d (du a)), (1, V.d (du (dig B))), (6, V.d (D.int IntKind.i64 (↑(dig B).length : Int)))] [] 12)) (fun K => by kernel_rfl) ?_
  refine awp_seq_k fun K hK => ?_
  refine awp_sx prog_ok hP hnt [] [] [] [0, 1, 6, 39] (by kernel_rfl) (G := fun K => K (St.mk [(0, V.d (du a)), (1, V.d (du (dig B))), (6, V.d (D.int IntKind.i64 (↑(dig B).length : Int))), (39, V.d (D.bool ((↑(dig B).length : Int) == (1 : Int))))] [] 14)) (fun K => by kernel_rfl) ?_
  refine awp_cond rfl (fun e => ?_) (fun e => awp_skip (hK _ ?_))
  · simp at e
    have hB1 : B < 4294967296 := dig_lt_of_len (k := 1) (by omega)
    have hdB : dig B = [B] := by rw [dig_pos h0, Nat.mod_eq_of_lt hB1, Nat.div_eq_of_lt hB1, dig_zero]
    rw [hdB]
    have hds := divsmall_fn a B (by omega) da (by omega) hB1
    have hm : val a % B < B := Nat.mod_lt _ (by omega)
    have hof := of_fn (val a % B) (by omega)
    refine awp_sx prog_ok hP hnt [] [.val (.tup [.d (du (dig (val a / B))), .d (.int .u32 (val a % B : Nat)), .d (.bool true)])] [some [.int .u32 B]] [7, 8] (by kernel_rfl) (G := fun K => ((0 : Int) ≤ (0 : Int) ∧ (0 : Int) < (↑[B].length : Int) ∧ 1 ≤ (u32s [B]).length) ∧ (List.drop 0 (u32s [B]))[0]? = some (D.int IntKind.u32 (↑B : Int)) ∧ Fn Try.prog 247 [V.d (du a), V.d (D.int IntKind.u32 (↑B : Int))] [] (V.tup [V.d (du (dig (val a / B))), V.d (D.int IntKind.u32 (↑(val a % B) : Int)), V.d (D.bool true)]) [] ∧ K (St.mk [(7, V.d (du (dig (val a / B)))), (8, V.d (D.int IntKind.u32 (↑(val a % B) : Int)))] [] 26)) (fun K => by kernel_rfl) ?_
    refine ⟨⟨by omega, by simp, by simp⟩, by rfl, hds, ?_⟩
    refine awp_sx prog_ok hP hnt [(51, .int .u64 (val a % B : Nat))] [.val (.d (du (dig (val a % B))))] [] [4, 5] (by kernel_rfl) (G := fun K => IntKind.u64.wrap (↑(val a % B) : Int) = (↑(val a % B) : Int) ∧ Fn Try.prog 155 [V.d (D.int IntKind.u64 (↑(val a % B) : Int))] [] (V.d (du (dig (val a % B)))) [] ∧ K (St.mk [(4, V.d (du (dig (val a / B)))), (5, V.d (du (dig (val a % B))))] [] 32)) (fun K => by kernel_rfl) ?_
    exact ⟨u64w (by omega) (by omega), hof, awp_ret ⟨.inl rfl, ret2 rfl rfl⟩⟩
  simp at e
  have hn2 : 2 ≤ (dig B).length := by have := mt dig_len0.1 h0; omega
  obtain ⟨td, ht1, ht2, ht3, ht4⟩ := dig_shl h0
  have hlz := lz32_fn td ht2
  obtain ⟨s, hs⟩ : ∃ s, s = 32 - blen td := ⟨_, rfl⟩
  rw [← hs] at ht4 hlz
  have hs32 : s ≤ 32 := by omega
  have hsv := shl_fn (dig B) s (by omega) hBd (by omega)
  have hsu := shlO_fn a s (by omega) da (by omega)
  have hU0 : (dig (val a * 2 ^ s)).length ≤ a.length + 1 := dig_len (by
    have h1 := val_lt da
    have h2 : 2 ^ s ≤ 4294967296 := by
      have := Nat.pow_le_pow_right (n := 2) (show 0 < 2 by omega) hs32
      omega
    rw [Nat.pow_succ]
    have h3 := Nat.mul_le_mul (Nat.le_of_lt h1) h2
    have h4 := Nat.mul_lt_mul_of_pos_right h1 (show 0 < 2 ^ s from Nat.pow_pos (by omega))
    have h5 := Nat.mul_le_mul_left (4294967296 ^ a.length) h2
    omega)
  have hVle : B * 2 ^ s ≤ val a * 2 ^ s := Nat.mul_le_mul_right _ hge
  rw [hBv] at hsv
  obtain ⟨V, hV⟩ : ∃ V, V = B * 2 ^ s := ⟨_, rfl⟩
  obtain ⟨A, hA⟩ : ∃ A, A = val a * 2 ^ s := ⟨_, rfl⟩
  rw [← hV] at hsv ht4 hVle
  rw [← hA] at hsu hU0 hVle
  have hLn : (dig V).length ≤ (dig A).length := dig_len (Nat.lt_of_le_of_lt hVle (by
    have := val_lt (dig_lt A); rwa [val_dig] at this))
  obtain ⟨v, hv⟩ : ∃ v, v = dig V := ⟨_, rfl⟩
  have hvd : Dg v := hv ▸ dig_lt V
  have hvv : val v = V := hv ▸ val_dig V
  obtain ⟨n, hn⟩ : ∃ n, n = (dig B).length := ⟨_, rfl⟩
  rw [← hv] at hsv ht4 hLn
  rw [← hn] at hn2 ht1 ht4 hlb ⊢
  refine awp_sx prog_ok hP hnt [(55, .int .i64 (n - 1 : Nat))] [.val (.d (.int .i64 s))] [some [.int .u32 td]] [0, 1, 6, 10] (by kernel_rfl) (G := fun K => IntKind.i64.wrap ((↑n : Int) - (1 : Int)) = (↑(n - 1) : Int) ∧ ((0 : Int) ≤ (↑(n - 1) : Int) ∧ (↑(n - 1) : Int) < (↑(dig B).length : Int) ∧ ((↑(n - 1) : Int).toNat + 1) * 1 ≤ (u32s (dig B)).length) ∧ (List.drop ((↑(n - 1) : Int).toNat * 1) (u32s (dig B)))[0]? = some (D.int IntKind.u32 (↑td : Int)) ∧ Fn Try.prog 248 [Abs.V.d (D.int IntKind.u32 (↑td : Int))] [] (Abs.V.d (D.int IntKind.i64 (↑s : Int))) [] ∧ K (St.mk [(0, Abs.V.d (du a)), (1, Abs.V.d (du (dig B))), (6, Abs.V.d (D.int IntKind.i64 (↑n : Int))), (10, Abs.V.d (D.int IntKind.i64 (↑s : Int)))] [] 21)) (fun K => by kernel_rfl) ?_
  refine ⟨by rw [w64] <;> omega, ⟨by omega, by omega, by simp; omega⟩, ?_, hlz, ?_⟩
  · rw [Nat.mul_one, Int.toNat_natCast, List.getElem?_drop, Nat.add_zero, u32s_get, ht1]; rfl
  refine awp_sx prog_ok hP hnt [] [.val (.d (du v))] [] [0, 6, 10, 11] (by kernel_rfl) (G := fun K => Fn Try.prog 154 [Abs.V.d (du (dig B)), Abs.V.d (D.int IntKind.i64 (↑s : Int))] [] (Abs.V.d (du v)) [] ∧ K (St.mk [(0, Abs.V.d (du a)), (6, Abs.V.d (D.int IntKind.i64 (↑n : Int))), (10, Abs.V.d (D.int IntKind.i64 (↑s : Int))), (11, Abs.V.d (du v))] [] 25)) (fun K => by kernel_rfl) ?_
  refine ⟨hsv, ?_⟩
  refine awp_sx prog_ok hP hnt [] [.own (dig A).length 1 (u32s (dig A))] [] [6, 10, 11, 12] (by kernel_rfl) (G := fun K => Fn Try.prog 154 [Abs.V.d (du a), Abs.V.d (D.int IntKind.i64 (↑s : Int))] [] (Abs.V.own 27 0 (dig A).length 1) [(27, Blk.mk (u32s (dig A)) true)] ∧ 1 = 1 ∧ ((u32s (dig A)).length = (dig A).length * 1 ∧ ((dig A).length + 1) * 4 ≤ 2 ^ 47) ∧ K (St.mk [(6, Abs.V.d (D.int IntKind.i64 (↑n : Int))), (10, Abs.V.d (D.int IntKind.i64 (↑s : Int))), (11, Abs.V.d (du v)), (12, Abs.V.own 29 0 ((dig A).length + 1) 1)] [(27, none), (29, some (Blk.mk (u32s (dig A) ++ setCells (zeros 1 (TI.mk (Kind.int IntKind.u32) 1 4 [D.int IntKind.u32 (0 : Int)]).zero) 0 [D.int IntKind.u32 (0 : Int)]) true))] 31)) (fun K => by kernel_rfl) ?_
  refine ⟨hsu _, ?_⟩
  obtain ⟨u0, hu0⟩ : ∃ u0, u0 = dig A ++ [0] := ⟨_, rfl⟩
  have hu0d : Dg u0 := hu0 ▸ dg_append (dig_lt A) (dg_one (by omega))
  have hu0v : val u0 = A := by rw [hu0, val_append, val_dig]; simp [val]
  have hu0l : u0.length = (dig A).length + 1 := by rw [hu0]; simp
  have hcells : u32s (dig A) ++ setCells (zeros 1 [.int .u32 0]) 0 [.int .u32 0] = u32s u0 := by rw [hu0]; simp [u32s, zeros, setCells]
  have hA0 : A < 4294967296 ^ (dig A).length := by have := val_lt (dig_lt A); rwa [val_dig] at this
  rw [hcells]
  obtain ⟨m, rfl⟩ : ∃ m, n = m + 2 := ⟨n - 2, by omega⟩
  obtain ⟨k0, hk0⟩ : ∃ k0, k0 = u0.length - (m + 2) := ⟨_, rfl⟩
  have hu0k : u0.length = k0 + (m + 2) := by omega
  obtain ⟨t, htv⟩ := get_ex (l := v) (i := m + 1) (by omega)
  obtain ⟨x, hxv⟩ := get_ex (l := v) (i := m) (by omega)
  have ht0 : 0 < t := by
    rcases Nat.eq_zero_or_pos t with h | h
    · exfalso
      subst h
      have h1 := val_take_succ htv
      rw [List.take_of_length_le (by omega), Nat.mul_zero, Nat.add_zero, hvv] at h1
      have h2 := val_take_lt hvd (m + 1)
      have h3 := dig_len (n := V) (k := m + 1) (by omega)
      rw [← hv] at h3
      omega
    · exact h
  have ht32 := dg_get hvd htv
  have hx32 := dg_get hvd hxv
  rw [← hu0l]
  refine ⟨rfl, ⟨by simp, by omega⟩, ?_⟩
  refine awp_sx prog_ok hP hnt [(70, .int .i64 k0)] [] [] [4, 6, 10, 11, 12] (by kernel_rfl) (G := fun K => IntKind.i64.wrap ((↑u0.length : Int) - (↑(m + 2) : Int)) = (↑k0 : Int) ∧ ((↑k0 : Int) = (↑k0 : Int) ∧ (0 : Int) ≤ (↑k0 : Int) ∧ (↑k0 : Int) * (↑4 : Int) ≤ (2 : Int) ^ 47) ∧ K (St.mk [(6, Abs.V.d (D.int IntKind.i64 (↑(m + 2) : Int))), (10, Abs.V.d (D.int IntKind.i64 (↑s : Int))), (11, Abs.V.d (du v)), (12, Abs.V.own 29 0 u0.length 1), (4, Abs.V.own 35 0 (↑k0 : Int).toNat 1)] [(27, none), (29, some (Blk.mk (u32s u0) true)), (35, some (Blk.mk (zeros (↑k0 : Int).toNat (TI.mk (Kind.int IntKind.u32) 1 4 [D.int IntKind.u32 (0 : Int)]).zero) true))] 37)) (fun K => by kernel_rfl) ?_
  refine ⟨by rw [w64] <;> omega, ⟨rfl, by omega, by omega⟩, ?_⟩
  have gv1 : (List.drop ((m + 1 : Nat) * 1) (u32s v))[0]? = some (D.int .u32 t) := by
    rw [Nat.mul_one, List.getElem?_drop, Nat.add_zero, u32s_get, htv]; rfl
  have gv0 : (List.drop (m * 1) (u32s v))[0]? = some (D.int .u32 x) := by
    rw [Nat.mul_one, List.getElem?_drop, Nat.add_zero, u32s_get, hxv]; rfl
  refine awp_sx prog_ok hP hnt [(74, .int .i64 (m + 1 : Nat)), (77, .int .u64 t), (80, .int .i64 m), (83, .int .u64 x)] [] [some [.int .u32 t], some [.int .u32 x]] [4, 6, 10, 11, 12, 13, 14] (by kernel_rfl) (G := fun K => IntKind.i64.wrap ((↑(m + 2) : Int) - (1 : Int)) = (↑(m + 1) : Int) ∧ ((0 : Int) ≤ (↑(m + 1) : Int) ∧ (↑(m + 1) : Int) < (↑v.length : Int) ∧ ((↑(m + 1) : Int).toNat + 1) * 1 ≤ (u32s v).length) ∧ (List.drop ((↑(m + 1) : Int).toNat * 1) (u32s v))[0]? = some (D.int IntKind.u32 (↑t : Int)) ∧ IntKind.u64.wrap (↑t : Int) = (↑t : Int) ∧ IntKind.i64.wrap ((↑(m + 2) : Int) - (2 : Int)) = (↑m : Int) ∧ ((0 : Int) ≤ (↑m : Int) ∧ (↑m : Int) < (↑v.length : Int) ∧ ((↑m : Int).toNat + 1) * 1 ≤ (u32s v).length) ∧ (List.drop ((↑m : Int).toNat * 1) (u32s v))[0]? = some (D.int IntKind.u32 (↑x : Int)) ∧ IntKind.u64.wrap (↑x : Int) = (↑x : Int) ∧ K (St.mk [(6, Abs.V.d (D.int IntKind.i64 (↑(m + 2) : Int))), (10, Abs.V.d (D.int IntKind.i64 (↑s : Int))), (11, Abs.V.d (du v)), (12, Abs.V.own 29 0 u0.length 1), (4, Abs.V.own 35 0 (↑k0 : Int).toNat 1), (13, Abs.V.d (D.int IntKind.u64 (↑t : Int))), (14, Abs.V.d (D.int IntKind.u64 (↑x : Int)))] [(27, none), (29, some (Blk.mk (u32s u0) true)), (35, some (Blk.mk (zeros (↑k0 : Int).toNat (TI.mk (Kind.int IntKind.u32) 1 4 [D.int IntKind.u32 (0 : Int)]).zero) true))] 51)) (fun K => by kernel_rfl) ?_
  refine ⟨by rw [w64] <;> omega, ⟨by omega, by omega, by simp; omega⟩, gv1, u64w (by omega) (by omega), by rw [w64] <;> omega, ⟨by omega, by omega, by simp; omega⟩, gv0, u64w (by omega) (by omega), ?_⟩
  refine awp_seq_k fun K hK => awp_label (hK _ ?_)
  refine awp_cut (ι := List Nat × List Nat) (fun ⟨u, q⟩ => ⟨[(4, .own 1 0 k0 1), (6, .d (.int .i64 (m + 2 : Nat))), (10, .d (.int .i64 s)), (12, .own 0 0 (k0 + (m + 2)) 1)], [(0, some ⟨u32s u, true⟩), (1, some ⟨u32s q, true⟩)], 2⟩)
    (fun ⟨u, q⟩ => u.length = k0 + (m + 2) ∧ Dg u ∧ q.length = k0 ∧ Dg q ∧ A = val q * V + val u ∧ val u < V) ?_ ?_
  · refine awp_sx prog_ok hP hnt [(88, .int .i64 ((k0 : Int) - 1))] [] [] [4, 6, 10, 11, 12, 13, 14, 15] (by kernel_rfl) (G := fun K => IntKind.i64.wrap (IntKind.i64.wrap ((↑u0.length : Int) - (↑(m + 2) : Int)) - (1 : Int)) = (↑k0 : Int) - (1 : Int) ∧ K (St.mk [(6, Abs.V.d (D.int IntKind.i64 (↑(m + 2) : Int))), (10, Abs.V.d (D.int IntKind.i64 (↑s : Int))), (11, Abs.V.d (du v)), (12, Abs.V.own 29 0 u0.length 1), (4, Abs.V.own 35 0 (↑k0 : Int).toNat 1), (13, Abs.V.d (D.int IntKind.u64 (↑t : Int))), (14, Abs.V.d (D.int IntKind.u64 (↑x : Int))), (15, Abs.V.d (D.int IntKind.i64 ((↑k0 : Int) - (1 : Int))))] [(27, none), (29, some (Blk.mk (u32s u0) true)), (35, some (Blk.mk (zeros (↑k0 : Int).toNat (TI.mk (Kind.int IntKind.u32) 1 4 [D.int IntKind.u32 (0 : Int)]).zero) true))] 57)) (fun K => by kernel_rfl) ?_
    have hw0 : IntKind.i64.wrap ((u0.length : Int) - (m + 2 : Nat)) = (k0 : Int) := by rw [w64] <;> omega
    refine ⟨by rw [hw0, w64] <;> omega, ?_⟩
    refine awp_block ?_
    refine awp_loop (ι := Nat × List Nat × List Nat) (fun ⟨k, u, q⟩ => ⟨[(4, .own 1 0 k0 1), (6, .d (.int .i64 (m + 2 : Nat))), (10, .d (.int .i64 s)), (11, .d (du v)), (12, .own 0 0 (k0 + (m + 2)) 1), (13, .d (.int .u64 t)), (14, .d (.int .u64 x)), (15, .d (.int .i64 ((k : Int) - 1)))], [(0, some ⟨u32s u, true⟩), (1, some ⟨u32s q, true⟩)], 2⟩)
      (fun ⟨k, u, q⟩ => k ≤ k0 ∧ u.length = k0 + (m + 2) ∧ Dg u ∧ q.length = k0 ∧ Dg q ∧ q.take k = List.replicate k 0 ∧ A = val q * V + val u ∧ val u < V * 4294967296 ^ k) (fun ⟨k, u, q⟩ => k) (k0, u0, List.replicate k0 0) [(0, 29), (1, 35)] ?_ ?_ ?_
    · refine ⟨Nat.le_refl _, hu0k, hu0d, by simp, dg_zeros _, by simp, by rw [val_zeros, hu0v]; omega, ?_⟩
      have h1 := dig_ge (n := V) (k := m + 1) (by rw [← hv]; omega)
      rw [show (dig A).length = (m + 1) + k0 by omega, Nat.pow_add] at hA0
      rw [hu0v]
      exact Nat.lt_of_lt_of_le hA0 (Nat.mul_le_mul_right _ h1)
    · rw [hu0k]
      (constructor <;> simp [hl, envOk, memOk, conv, St.get, St.blk, zeros_u32])
    rintro ⟨k, u, q⟩ ⟨hk, hul, hud, hql, hqd, hq0, hAv, hult⟩
    refine awp_seq_k fun K1 hK1 => ?_
    refine awp_sx prog_ok hP hnt [] [] [] [4, 6, 10, 11, 12, 13, 14, 15, 90] (by kernel_rfl) (G := fun K => K (St.mk [(4, Abs.V.own 1 0 k0 1), (6, Abs.V.d (D.int IntKind.i64 (↑(m + 2) : Int))), (10, Abs.V.d (D.int IntKind.i64 (↑s : Int))), (11, Abs.V.d (du v)), (12, Abs.V.own 0 0 (k0 + (m + 2)) 1), (13, Abs.V.d (D.int IntKind.u64 (↑t : Int))), (14, Abs.V.d (D.int IntKind.u64 (↑x : Int))), (15, Abs.V.d (D.int IntKind.i64 ((↑k : Int) - (1 : Int)))), (90, Abs.V.d (D.bool (decide ((↑k : Int) - (1 : Int) ≥ (0 : Int)))))] [(0, some (Blk.mk (u32s u) true)), (1, some (Blk.mk (u32s q) true))] 4)) (fun K => by kernel_rfl) ?_
    refine awp_cond rfl (fun e => awp_skip (hK1 _ ?_)) (fun e => awp_exit ⟨(u, q), [(0, 0), (1, 1)], ?_, ?_⟩)
    · simp at e
      obtain ⟨j, rfl⟩ : ∃ j, k = j + 1 := ⟨k - 1, by omega⟩
      have ej : ((j + 1 : Nat) : Int) - 1 = (j : Nat) := by omega
      rw [ej]
      refine awp_cut (ι := List Nat × List Nat) (fun z => longSt m k0 s v z.1 z.2 t x j []) (fun z => z.1.length = k0 + (m + 2) ∧ Dg z.1 ∧ z.2.length = k0 ∧ Dg z.2 ∧ z.2.take j = List.replicate j 0 ∧ A = val z.2 * V + val z.1 ∧ val z.1 < V * 4294967296 ^ j)
        (awp_weak [(0, 0), (1, 1)] (longSt m k0 s v u q t x j []) ?_ (digit_loop hP hnt hl (by omega) hul hud hvd hvv ht4 (by omega) hql hqd hq0 hAv hult htv hxv ht0)) ?_
      · unfold longSt
        (constructor <;> simp [hl, envOk, memOk, conv, St.get, St.blk])
      rintro ⟨u', q'⟩ ⟨h1, h2, h3, h4, h5, h6, h7⟩
      unfold longSt
      simp only at h1 h2 h3 h4 h5 h6 h7
      refine awp_x prog_ok hP hnt [(92, .int .i64 ((j : Int) - 1))] [] [] [4, 6, 10, 11, 12, 13, 14, 15] (by kernel_rfl) (G := fun K => IntKind.i64.wrap ((↑j : Int) - (1 : Int)) = (↑j : Int) - (1 : Int) ∧ K (St.mk [(4, Abs.V.own 1 0 k0 1), (6, Abs.V.d (D.int IntKind.i64 (↑(m + 2) : Int))), (10, Abs.V.d (D.int IntKind.i64 (↑s : Int))), (11, Abs.V.d (du v)), (12, Abs.V.own 0 0 (k0 + (m + 2)) 1), (13, Abs.V.d (D.int IntKind.u64 (↑t : Int))), (14, Abs.V.d (D.int IntKind.u64 (↑x : Int))), (15, Abs.V.d (D.int IntKind.i64 ((↑j : Int) - (1 : Int))))] [(0, some (Blk.mk (u32s u') true)), (1, some (Blk.mk (u32s q') true))] 5)) (fun K => by kernel_rfl) ?_
      refine ⟨by rw [w64] <;> omega, (j, u', q'), [(0, 0), (1, 1)], ⟨⟨by omega, h1, h2, h3, h4, h5, h6, h7⟩, by show j < j + 1; omega⟩, ?_⟩
      (constructor <;> simp [hl, envOk, memOk, conv, St.get, St.blk])
    · simp at e
      have hk0' : k = 0 := by omega
      subst hk0'
      exact ⟨hul, hud, hql, hqd, hAv, by simpa using hult⟩
    · (constructor <;> simp [hl, envOk, memOk, conv, St.get, St.blk])
  rintro ⟨u, q⟩ ⟨h1, h2, h3, h4, h5, h6⟩
  have hVp : 0 < V := by omega
  have hq : A / V = val q := by rw [h5, Nat.mul_comm, Nat.mul_add_div hVp, Nat.div_eq_of_lt h6]; rfl
  have hr : A % V = val u := by rw [h5, Nat.mul_comm, Nat.mul_add_mod, Nat.mod_eq_of_lt h6]
  have hqq : val a / B = val q := by rw [← hq, hA, hV, Nat.mul_div_mul_right _ _ (Nat.pow_pos (by omega))]
  have hrr : val a % B = val u / 2 ^ s := by rw [← hr, hA, hV, Nat.mul_mod_mul_right, Nat.mul_div_cancel _ (Nat.pow_pos (by omega))]
  have hVn : V < 4294967296 ^ (m + 2) := by have := val_lt hvd; rwa [hvv, ht4] at this
  have hut : val (u.take (m + 2)) = val u := take_small (by omega) (Nat.lt_trans h6 hVn)
  have hnq := nnorm_fn q (by omega) h4
  have hsr := shr_fn (u.take (m + 2)) s (by simp; omega) (dg_take h2 _) (by omega)
  rw [← hqq] at hnq
  rw [hut, ← hrr] at hsr
  refine awp_sx prog_ok hP hnt [] [.val (.d (du (dig (val a / B)))), .val (.d (du (dig (val a % B))))] [] [4, 5] (by kernel_rfl) (G := fun K => Fn Try.prog 230 [Abs.V.d (D.lst k0 (List.take (k0 * 1) (List.drop 0 (u32s q))))] [] (Abs.V.d (du (dig (val a / B)))) [] ∧ ((0 : Int) ≤ (↑(m + 2) : Int) ∧ (↑(m + 2) : Int) ≤ (↑(k0 + (m + 2)) : Int)) ∧ Fn Try.prog 250 [Abs.V.d (D.lst (↑(m + 2) : Int).toNat (List.take ((↑(m + 2) : Int).toNat * 1) (List.drop 0 (u32s u)))), Abs.V.d (D.int IntKind.i64 (↑s : Int))] [] (Abs.V.d (du (dig (val a % B)))) [] ∧ K (St.mk [(4, Abs.V.d (du (dig (val a / B)))), (5, Abs.V.d (du (dig (val a % B))))] [(0, some (Blk.mk (u32s u) false)), (1, some (Blk.mk (u32s q) false))] 11)) (fun K => by kernel_rfl) ?_
  rw [Nat.mul_one, Nat.mul_one, List.drop_zero, List.drop_zero, Int.toNat_natCast, u32s_take, u32s_take]
  have e1 : D.lst k0 (u32s (q.take k0)) = du q := by rw [List.take_of_length_le (by omega), ← h3]; rfl
  have e2 : D.lst (m + 2) (u32s (u.take (m + 2))) = du (u.take (m + 2)) := by
    have : (u.take (m + 2)).length = m + 2 := by rw [List.length_take]; omega
    rw [du, this]
  rw [e1, e2]
  exact ⟨hnq, ⟨by omega, by omega⟩, hsr, awp_ret ⟨.inl rfl, ret2 rfl rfl⟩⟩
end Go.Abs

set_option linter.unusedVariables false
set_option linter.unusedSimpArgs false
namespace Go.Abs
open Go Go.Proofs
set_option maxRecDepth 100000

theorem dzero_fn (s : Bool) (l : List Nat) (h : l.length ≤ 2 ^ 40) (hd : Dg l) : Fn Try.prog 234 [.agg (ic s l)] [] (.d (.bool (decide (val l = 0)))) [] := by
  refine fn0 (nt := 6) (res := [.tmp 2]) Try.func234 rfl (by decide) rfl rfl rfl rfl ?_
  intro Cx hP hnt hl
  have h1 := isZero_fn l (by omega) hd
  refine awp_sx prog_ok hP hnt [] [] [] [1] (by kernel_rfl) (G := fun K => K (St.mk [(1, V.ptr 0 0)] [(0, some (Blk.mk [D.bool s, du l] true))] 2)) (fun K => by kernel_rfl) ?_
  refine awp_sx prog_ok hP hnt [] [.val (.d (.bool (decide (val l = 0))))] [some [du l]] [2] (by kernel_rfl) (G := fun K => [D.bool s, du l][1]? = some (du l) ∧ Fn Try.prog 187 [V.d (du l)] [] (V.d (D.bool (decide (val l = 0)))) [] ∧ K (St.mk [(2, V.d (D.bool (decide (val l = 0))))] [(0, some (Blk.mk [D.bool s, du l] true))] 6)) (fun K => by kernel_rfl) ?_
  exact ⟨rfl, h1, awp_ret ⟨.inl rfl, retD rfl⟩⟩

/-- results: two variables of two cells and a plain one -/
theorem retCCT {T : Tab} {c1 c2 t b1 b2 u : Nat} {s : St} {cs1 cs2 : List D} {l1 l2 : Bool} {d : D} (h1 : s.get c1 = .ptr b1 0) (h2 : s.blk b1 = some ⟨cs1, l1⟩) (h3 : s.get c2 = .ptr b2 0) (h4 : s.blk b2 = some ⟨cs2, l2⟩) (h5 : s.get u = .d d)
    (ha : Tab.agg T t = true) (hs1 : T.size t = cs1.length) (hs2 : T.size t = cs2.length) : RetOk T [.cell c1 t, .cell c2 t, .tmp u] (.tup [.agg cs1, .agg cs2, .d d]) [] s := by
  unfold RetOk evalRes
  rw [h1]
  simp only [h2, ha, if_true, evalRes, h3, h4, h5]
  refine ⟨by omega, by omega, .inl ⟨?_, trivial⟩⟩
  rw [List.drop_zero, List.drop_zero, hs1, List.take_of_length_le (Nat.le_refl _), ← hs1, hs2, List.take_of_length_le (Nat.le_refl _)]
  rfl
theorem retCT {T : Tab} {c1 t b1 u : Nat} {s : St} {cs1 : List D} {l1 : Bool} {d : D} (h1 : s.get c1 = .ptr b1 0) (h2 : s.blk b1 = some ⟨cs1, l1⟩) (h5 : s.get u = .d d)
    (ha : Tab.agg T t = true) (hs1 : T.size t = cs1.length) : RetOk T [.cell c1 t, .tmp u] (.tup [.agg cs1, .d d]) [] s := by
  unfold RetOk evalRes
  rw [h1]
  simp only [h2, ha, if_true, evalRes, h5]
  refine ⟨by omega, .inl ⟨?_, trivial⟩⟩
  rw [List.drop_zero, hs1, List.take_of_length_le (Nat.le_refl _)]
  rfl

theorem sgn_tdiv (s t : Bool) (m n : Nat) : (sgn s m).tdiv (sgn t n) = sgn (s != t) (m / n) := by
  have e : (m : Int).tdiv n = (m / n : Nat) := rfl
  cases s <;> cases t <;> simp [sgn, Int.tdiv_neg, Int.neg_tdiv, e]
theorem sgn_tmod (s t : Bool) (m n : Nat) : (sgn s m).tmod (sgn t n) = sgn s (m % n) := by
  have e : (m : Int).tmod n = (m % n : Nat) := rfl
  cases s <;> cases t <;> simp [sgn, Int.tmod_neg, Int.neg_tmod, e]

theorem quo_fn (s t : Bool) (l m : List Nat) (hl1 : l.length ≤ 2 ^ 38) (hm1 : m.length ≤ 2 ^ 38) (dl : Dg l) (dm : Dg m) (h0 : val m ≠ 0) :
    Fn Try.prog 233 [.agg (ic s l), .agg (ic t m)] [] (.tup [.agg (iz ((ival s l).tdiv (ival t m))), .agg (iz ((ival s l).tmod (ival t m))), .d (.int .i64 0)]) [] := by
  refine fn0 (nt := 32) (res := [.cell 4 46, .cell 5 46, .tmp 6]) Try.func233 rfl (by decide) rfl rfl rfl rfl ?_
  intro Cx hP hnt hl
  have hz := dzero_fn t m (by omega) dm
  rw [decide_eq_false h0] at hz
  have hlong := long_fn l m hl1 hm1 dl dm h0
  refine awp_sx prog_ok hP hnt [] [] [] [2, 3, 4, 5] (by kernel_rfl) (G := fun K => K (St.mk [(2, V.ptr 0 0), (3, V.ptr 1 0), (4, V.ptr 2 0), (5, V.ptr 3 0)] [(0, some (Blk.mk [D.bool s, du l] true)), (1, some (Blk.mk [D.bool t, du m] true)), (2, some (Blk.mk [D.bool false, D.lst 0 []] true)), (3, some (Blk.mk [D.bool false, D.lst 0 []] true))] 5)) (fun K => by kernel_rfl) ?_
  refine awp_seq_k fun K hK => ?_
  refine awp_sx prog_ok hP hnt [] [.val (.d (.bool false))] [] [2, 3, 4, 5, 10] (by kernel_rfl) (G := fun K => Fn Try.prog 234 [V.agg [D.bool t, du m]] [] (V.d (D.bool false)) [] ∧ K (St.mk [(2, V.ptr 0 0), (3, V.ptr 1 0), (4, V.ptr 2 0), (5, V.ptr 3 0), (10, V.d (D.bool false))] [(0, some (Blk.mk [D.bool s, du l] true)), (1, some (Blk.mk [D.bool t, du m] true)), (2, some (Blk.mk [D.bool false, D.lst 0 []] true)), (3, some (Blk.mk [D.bool false, D.lst 0 []] true))] 7)) (fun K => by kernel_rfl) ?_
  have hva := val_lt dl
  have hq : (dig (val l / val m)).length ≤ 2 ^ 40 := Nat.le_trans (dig_len (Nat.lt_of_le_of_lt (Nat.div_le_self _ _) hva)) (by omega)
  have hr : (dig (val l % val m)).length ≤ 2 ^ 40 := Nat.le_trans (dig_len (Nat.lt_of_le_of_lt (Nat.mod_le _ _) hva)) (by omega)
  have f1 := from_fn (s != t) (dig (val l / val m)) hq (dig_lt _)
  have f2 := from_fn s (dig (val l % val m)) hr (dig_lt _)
  rw [show ival (s != t) (dig (val l / val m)) = (ival s l).tdiv (ival t m) from by unfold ival; rw [val_dig, sgn_tdiv]] at f1
  rw [show ival s (dig (val l % val m)) = (ival s l).tmod (ival t m) from by unfold ival; rw [val_dig, sgn_tmod]] at f2
  refine ⟨hz, awp_cond (b := false) rfl nofun fun _ => awp_skip (hK _ ?_)⟩
  refine awp_sx prog_ok hP hnt [] [.val (.tup [.d (du (dig (val l / val m))), .d (du (dig (val l % val m)))])] [some [du l], some [du m]] [2, 3, 4, 5, 7, 8] (by kernel_rfl) (G := fun K => [D.bool s, du l][1]? = some (du l) ∧ [D.bool t, du m][1]? = some (du m) ∧ Fn Try.prog 240 [V.d (du l), V.d (du m)] [] (V.tup [V.d (du (dig (val l / val m))), V.d (du (dig (val l % val m)))]) [] ∧ K (St.mk [(2, V.ptr 0 0), (3, V.ptr 1 0), (4, V.ptr 2 0), (5, V.ptr 3 0), (7, V.d (du (dig (val l / val m)))), (8, V.d (du (dig (val l % val m))))] [(0, some (Blk.mk [D.bool s, du l] true)), (1, some (Blk.mk [D.bool t, du m] true)), (2, some (Blk.mk [D.bool false, D.lst 0 []] true)), (3, some (Blk.mk [D.bool false, D.lst 0 []] true))] 17)) (fun K => by kernel_rfl) ?_
  refine ⟨rfl, rfl, hlong, ?_⟩
  obtain ⟨Q, hQ⟩ : ∃ Q, Q = (ival s l).tdiv (ival t m) := ⟨_, rfl⟩
  obtain ⟨R, hR⟩ : ∃ R, R = (ival s l).tmod (ival t m) := ⟨_, rfl⟩
  rw [← hQ] at f1 ⊢
  rw [← hR] at f2 ⊢
  refine awp_sx prog_ok hP hnt [(25, .bool (s != t))] [.val (.agg (iz Q)), .val (.agg (iz R))] [some [.bool s], some [.bool t], some [.bool s]] [4, 5, 6] (by kernel_rfl) (G := fun K => [D.bool s, du l][0]? = some (D.bool s) ∧ [D.bool t, du m][0]? = some (D.bool t) ∧ (!s == t) = (s != t) ∧ Fn Try.prog 182 [V.d (D.bool (s != t)), V.d (du (dig (val l / val m)))] [] (V.agg [D.bool (decide (Q < (0 : Int))), du (dig Q.natAbs)]) [] ∧ [D.bool s, du l][0]? = some (D.bool s) ∧ Fn Try.prog 182 [V.d (D.bool s), V.d (du (dig (val l % val m)))] [] (V.agg [D.bool (decide (R < (0 : Int))), du (dig R.natAbs)]) [] ∧ 0 + (iz Q).length ≤ [D.bool false, D.lst 0 []].length ∧ 0 + (iz R).length ≤ [D.bool false, D.lst 0 []].length ∧ K (St.mk [(4, V.ptr 2 0), (5, V.ptr 3 0), (6, V.d (D.int IntKind.i64 (0 : Int)))] [(0, some (Blk.mk [D.bool s, du l] true)), (1, some (Blk.mk [D.bool t, du m] true)), (2, some (Blk.mk [D.bool (decide (Q < (0 : Int))), du (dig Q.natAbs)] true)), (3, some (Blk.mk [D.bool (decide (R < (0 : Int))), du (dig R.natAbs)] true))] 31)) (fun K => by kernel_rfl) ?_
  exact ⟨rfl, rfl, rfl, f1, rfl, f2, by simp [iz], by simp [iz], awp_ret ⟨.inl rfl, retCCT rfl rfl rfl rfl rfl rfl rfl rfl⟩⟩

theorem iz_zero' : iz 0 = [.bool false, .lst 0 []] := by unfold iz; rw [show (0 : Int).natAbs = 0 from rfl, dig_zero]; rfl

theorem exact_fn (s t : Bool) (l m : List Nat) (hl1 : l.length ≤ 2 ^ 38) (hm1 : m.length ≤ 2 ^ 38) (dl : Dg l) (dm : Dg m) (h0 : val m ≠ 0) :
    Fn Try.prog 204 [.agg (ic s l), .agg (ic t m)] [] (.tup [.agg (iz (if ival t m ∣ ival s l then (ival s l).tdiv (ival t m) else 0)), .d (.int .i64 (if ival t m ∣ ival s l then 0 else 3))]) [] := by
  refine fn0 (nt := 26) (res := [.cell 4 46, .tmp 5]) Try.func204 rfl (by decide) rfl rfl rfl rfl ?_
  intro Cx hP hnt hl
  have hq := quo_fn s t l m hl1 hm1 dl dm h0
  refine awp_sx prog_ok hP hnt [] [] [] [2, 3, 4] (by kernel_rfl) (G := fun K => K (St.mk [(2, V.ptr 0 0), (3, V.ptr 1 0), (4, V.ptr 2 0)] [(0, some (Blk.mk [D.bool s, du l] true)), (1, some (Blk.mk [D.bool t, du m] true)), (2, some (Blk.mk [D.bool false, D.lst 0 []] true))] 4)) (fun K => by kernel_rfl) ?_
  obtain ⟨Q, hQ⟩ : ∃ Q, Q = (ival s l).tdiv (ival t m) := ⟨_, rfl⟩
  obtain ⟨R, hR⟩ : ∃ R, R = (ival s l).tmod (ival t m) := ⟨_, rfl⟩
  have hRn : R.natAbs ≤ val l := by
    rw [hR]; unfold ival; rw [sgn_tmod, sgn_abs]; exact Nat.mod_le _ _
  have hr : (dig R.natAbs).length ≤ 2 ^ 40 := Nat.le_trans (dig_len (Nat.lt_of_le_of_lt hRn (val_lt dl))) (by omega)
  have hz := dzero_fn (decide (R < 0)) (dig R.natAbs) hr (dig_lt _)
  rw [val_dig, ← iz_ic] at hz
  have hdvd : ival t m ∣ ival s l ↔ R = 0 := by rw [hR]; exact Int.dvd_iff_tmod_eq_zero
  rw [← hQ, ← hR] at hq
  rw [← hQ]
  refine awp_sx prog_ok hP hnt [] [.val (.tup [.agg (iz Q), .agg (iz R), .d (.int .i64 0)])] [some (ic s l), some (ic t m)] [4, 6, 7, 8] (by kernel_rfl) (G := fun K => ([D.bool s, du l][0]? = some (D.bool s) ∧ [D.bool s, du l][1]? = some (du l)) ∧ ([D.bool t, du m][0]? = some (D.bool t) ∧ [D.bool t, du m][1]? = some (du m)) ∧ Fn Try.prog 233 [V.agg [D.bool s, du l], V.agg [D.bool t, du m]] [] (V.tup [V.agg [D.bool (decide (Q < (0 : Int))), du (dig Q.natAbs)], V.agg [D.bool (decide (R < (0 : Int))), du (dig R.natAbs)], V.d (D.int IntKind.i64 (0 : Int))]) [] ∧ 0 + (iz Q).length ≤ (TI.mk (Kind.struct [(0, 1), (1, 1)]) 2 32 [D.bool false, D.lst 0 []]).zero.length ∧ 0 + (iz R).length ≤ (TI.mk (Kind.struct [(0, 1), (1, 1)]) 2 32 [D.bool false, D.lst 0 []]).zero.length ∧ K (St.mk [(4, V.ptr 2 0), (6, V.ptr 11 0), (7, V.ptr 12 0), (8, V.d (D.int IntKind.i64 (0 : Int)))] [(0, some (Blk.mk [D.bool s, du l] true)), (1, some (Blk.mk [D.bool t, du m] true)), (2, some (Blk.mk [D.bool false, D.lst 0 []] true)), (11, some (Blk.mk [D.bool (decide (Q < (0 : Int))), du (dig Q.natAbs)] true)), (12, some (Blk.mk [D.bool (decide (R < (0 : Int))), du (dig R.natAbs)] true))] 16)) (fun K => by kernel_rfl) ?_
  refine ⟨⟨rfl, rfl⟩, ⟨rfl, rfl⟩, hq, by simp [iz], by simp [iz], ?_⟩
  by_cases hR0 : R = 0
  · rw [if_pos (hdvd.2 hR0), if_pos (hdvd.2 hR0)]
    refine awp_seq_k fun K hK => ?_
    rw [decide_eq_true (by rw [hR0]; rfl)] at hz
    refine awp_sx prog_ok hP hnt [(17, .bool true), (21, .bool false), (22, .bool false)] [.val (.d (.bool true))] [some (iz R)] [4, 6, 8, 22] (by kernel_rfl) (G := fun K => ((0 : Int) == (0 : Int)) = true ∧ ([D.bool (decide (R < (0 : Int))), du (dig R.natAbs)][0]? = some (D.bool (decide (R < (0 : Int)))) ∧ [D.bool (decide (R < (0 : Int))), du (dig R.natAbs)][1]? = some (du (dig R.natAbs))) ∧ Fn Try.prog 234 [V.agg [D.bool (decide (R < (0 : Int))), du (dig R.natAbs)]] [] (V.d (D.bool true)) [] ∧ (!true) = false ∧ false = false ∧ K (St.mk [(4, V.ptr 2 0), (6, V.ptr 11 0), (8, V.d (D.int IntKind.i64 (0 : Int))), (22, V.d (D.bool false))] [(0, some (Blk.mk [D.bool s, du l] true)), (1, some (Blk.mk [D.bool t, du m] true)), (2, some (Blk.mk [D.bool false, D.lst 0 []] true)), (11, some (Blk.mk [D.bool (decide (Q < (0 : Int))), du (dig Q.natAbs)] true)), (12, some (Blk.mk [D.bool (decide (R < (0 : Int))), du (dig R.natAbs)] true))] 23)) (fun K => by kernel_rfl) ?_
    refine ⟨rfl, ⟨rfl, rfl⟩, hz, rfl, rfl, awp_cond (b := false) rfl nofun fun _ => awp_skip (hK _ ?_)⟩
    refine awp_sx prog_ok hP hnt [] [] [some (iz Q)] [4, 5] (by kernel_rfl) (G := fun K => ([D.bool (decide (Q < (0 : Int))), du (dig Q.natAbs)][0]? = some (D.bool (decide (Q < (0 : Int)))) ∧ [D.bool (decide (Q < (0 : Int))), du (dig Q.natAbs)][1]? = some (du (dig Q.natAbs))) ∧ 0 + (iz Q).length ≤ [D.bool false, D.lst 0 []].length ∧ K (St.mk [(4, V.ptr 2 0), (5, V.d (D.int IntKind.i64 (0 : Int)))] [(0, some (Blk.mk [D.bool s, du l] true)), (1, some (Blk.mk [D.bool t, du m] true)), (2, some (Blk.mk [D.bool (decide (Q < (0 : Int))), du (dig Q.natAbs)] true)), (11, some (Blk.mk [D.bool (decide (Q < (0 : Int))), du (dig Q.natAbs)] true)), (12, some (Blk.mk [D.bool (decide (R < (0 : Int))), du (dig R.natAbs)] true))] 27)) (fun K => by kernel_rfl) ?_
    exact ⟨⟨rfl, rfl⟩, by simp [iz], awp_ret ⟨.inl rfl, retCT rfl rfl rfl rfl rfl⟩⟩
  · have hnd : ¬ ival t m ∣ ival s l := fun h => hR0 (hdvd.1 h)
    rw [if_neg hnd, if_neg hnd]
    refine awp_seq_k fun K hK => ?_
    rw [decide_eq_false (by omega)] at hz
    refine awp_sx prog_ok hP hnt [(17, .bool true), (21, .bool true), (22, .bool true)] [.val (.d (.bool false))] [some (iz R)] [4, 6, 8, 22] (by kernel_rfl) (G := fun K => ((0 : Int) == (0 : Int)) = true ∧ ([D.bool (decide (R < (0 : Int))), du (dig R.natAbs)][0]? = some (D.bool (decide (R < (0 : Int)))) ∧ [D.bool (decide (R < (0 : Int))), du (dig R.natAbs)][1]? = some (du (dig R.natAbs))) ∧ Fn Try.prog 234 [V.agg [D.bool (decide (R < (0 : Int))), du (dig R.natAbs)]] [] (V.d (D.bool false)) [] ∧ (!false) = true ∧ true = true ∧ K (St.mk [(4, V.ptr 2 0), (6, V.ptr 11 0), (8, V.d (D.int IntKind.i64 (0 : Int))), (22, V.d (D.bool true))] [(0, some (Blk.mk [D.bool s, du l] true)), (1, some (Blk.mk [D.bool t, du m] true)), (2, some (Blk.mk [D.bool false, D.lst 0 []] true)), (11, some (Blk.mk [D.bool (decide (Q < (0 : Int))), du (dig Q.natAbs)] true)), (12, some (Blk.mk [D.bool (decide (R < (0 : Int))), du (dig R.natAbs)] true))] 23)) (fun K => by kernel_rfl) ?_
    refine ⟨rfl, ⟨rfl, rfl⟩, hz, rfl, rfl, awp_cond (b := true) rfl (fun _ => ?_) nofun⟩
    refine awp_sx prog_ok hP hnt [] [] [] [4, 5] (by kernel_rfl) (G := fun K => 2 ≤ [D.bool false, D.lst 0 []].length ∧ K (St.mk [(4, V.ptr 2 0), (5, V.d (D.int IntKind.i64 (3 : Int)))] [(0, some (Blk.mk [D.bool s, du l] true)), (1, some (Blk.mk [D.bool t, du m] true)), (2, some (Blk.mk [D.bool false, D.lst 0 []] true)), (11, some (Blk.mk [D.bool (decide (Q < (0 : Int))), du (dig Q.natAbs)] true)), (12, some (Blk.mk [D.bool (decide (R < (0 : Int))), du (dig R.natAbs)] true))] 26)) (fun K => by kernel_rfl) ?_
    refine ⟨by simp, awp_ret ⟨.inl rfl, retCT (l1 := true) rfl (by rw [iz_zero']; rfl) rfl rfl rfl⟩⟩

theorem igcd_fn (s t : Bool) (l m : List Nat) (hl1 : l.length ≤ 2 ^ 38) (hm1 : m.length ≤ 2 ^ 38) (dl : Dg l) (dm : Dg m) :
    Fn Try.prog 202 [.agg (ic s l), .agg (ic t m)] [] (.agg (iz (Nat.gcd (val l) (val m) : Nat))) [] := by
  refine fn0 (nt := 53) (res := [.cell 4 46]) Try.func202 rfl (by decide) rfl rfl rfl rfl ?_
  intro Cx hP hnt hl
  have n1 := nnorm_fn l (by omega) dl
  have n2 := nnorm_fn m (by omega) dm
  have k1 := dig_le dl
  have k2 := dig_le dm
  refine awp_sx prog_ok hP hnt [] [] [] [2, 3, 4] (by kernel_rfl) (G := fun K => K (St.mk [(2, V.ptr 0 0), (3, V.ptr 1 0), (4, V.ptr 2 0)] [(0, some (Blk.mk [D.bool s, du l] true)), (1, some (Blk.mk [D.bool t, du m] true)), (2, some (Blk.mk [D.bool false, D.lst 0 []] true))] 3)) (fun K => by kernel_rfl) ?_
  refine awp_sx prog_ok hP hnt [] [.val (.d (du (dig (val l)))), .val (.d (du (dig (val m))))] [some [du l], some [du m]] [4, 5, 6] (by kernel_rfl) (G := fun K => [D.bool s, du l][1]? = some (du l) ∧ Fn Try.prog 230 [V.d (du l)] [] (V.d (du (dig (val l)))) [] ∧ [D.bool t, du m][1]? = some (du m) ∧ Fn Try.prog 230 [V.d (du m)] [] (V.d (du (dig (val m)))) [] ∧ K (St.mk [(4, V.ptr 2 0), (5, V.d (du (dig (val l)))), (6, V.d (du (dig (val m))))] [(0, some (Blk.mk [D.bool s, du l] true)), (1, some (Blk.mk [D.bool t, du m] true)), (2, some (Blk.mk [D.bool false, D.lst 0 []] true))] 11)) (fun K => by kernel_rfl) ?_
  refine ⟨rfl, n1, rfl, n2, ?_⟩
  obtain ⟨G, hG⟩ : ∃ G, G = Nat.gcd (val l) (val m) := ⟨_, rfl⟩
  obtain ⟨a, ha⟩ : ∃ a, a = val l := ⟨_, rfl⟩
  obtain ⟨b, hb⟩ : ∃ b, b = val m := ⟨_, rfl⟩
  rw [← hG]
  rw [← ha] at k1 hG ⊢
  rw [← hb] at k2 hG ⊢
  have hl2 : l.length ≤ 2 ^ 38 := hl1
  have ka : (dig a).length ≤ 2 ^ 38 := by omega
  have kb : (dig b).length ≤ 2 ^ 38 := by omega
  have hfr : ∀ g : Nat, (dig g).length ≤ 2 ^ 40 → Fn Try.prog 182 [.d (.bool false), .d (du (dig g))] [] (.agg (iz (g : Nat))) [] := fun g hg => by
    have := from_fn false (dig g) hg (dig_lt g)
    rwa [show ival false (dig g) = (g : Int) from by unfold ival sgn; rw [val_dig]; simp] at this
  have hmod : ∀ x y : Nat, (dig (x % y)).length ≤ (dig x).length := fun x y => dig_len (Nat.lt_of_le_of_lt (Nat.mod_le _ _) (by have := val_lt (dig_lt x); rwa [val_dig] at this))
  refine awp_cut (ι := Unit) (fun _ => ⟨[(4, .ptr 0 0), (5, .d (du (dig G)))], [(0, some ⟨[.bool false, .lst 0 []], true⟩)], 1⟩) (fun _ => (dig G).length ≤ 2 ^ 38) ?_ ?_
  · refine awp_block ?_
    refine awp_loop (ι := Nat × Nat) (fun ⟨x, y⟩ => ⟨[(4, .ptr 0 0), (5, .d (du (dig x))), (6, .d (du (dig y)))], [(0, some ⟨[.bool false, .lst 0 []], true⟩)], 1⟩) (fun ⟨x, y⟩ => Nat.gcd x y = G ∧ (dig x).length ≤ 2 ^ 38 ∧ (dig y).length ≤ 2 ^ 38) (fun ⟨x, y⟩ => y) (a, b) [(0, 2)] ⟨hG.symm, ka, kb⟩ ?_ ?_
    · (constructor <;> simp [hl, envOk, memOk, conv, St.get, St.blk])
    rintro ⟨x, y⟩ ⟨hg, hx, hy⟩
    refine awp_seq_k fun K1 hK1 => ?_
    refine awp_sx prog_ok hP hnt [] [] [] [4, 5, 6, 21] (by kernel_rfl) (G := fun K => K (St.mk [(4, V.ptr 0 0), (5, V.d (du (dig x))), (6, V.d (du (dig y))), (21, V.d (D.bool (decide ((↑(dig y).length : Int) > (0 : Int)))))] [(0, some (Blk.mk [D.bool false, D.lst 0 []] true))] 4)) (fun K => by kernel_rfl) ?_
    refine awp_cond rfl (fun e => awp_skip (hK1 _ ?_)) (fun e => awp_exit ⟨(), [(0, 0)], ?_, ?_⟩)
    · simp at e
      have hy0 : y ≠ 0 := fun h => by subst h; rw [dig_zero] at e; simp at e
      have u1 := uint64_fn (dig x) (by omega) (dig_lt x)
      have u2 := uint64_fn (dig y) (by omega) (dig_lt y)
      rw [val_dig] at u1 u2
      have hlo := long_fn (dig x) (dig y) hx hy (dig_lt x) (dig_lt y) (by rw [val_dig]; exact hy0)
      rw [val_dig, val_dig] at hlo
      refine awp_block ?_
      refine awp_cut (ι := Unit) (fun _ => ⟨[(4, .ptr 0 0), (5, .d (du (dig x))), (6, .d (du (dig y)))], [(0, some ⟨[.bool false, .lst 0 []], true⟩)], 1⟩) (fun _ => True) ?_ ?_
      · refine awp_sx prog_ok hP hnt [] [.val (.tup [.d (.int .u64 (if x < 18446744073709551616 then x else 0 : Nat)), .d (.bool (decide (x < 18446744073709551616)))])] [] [4, 5, 6, 7, 8] (by kernel_rfl) (G := fun K => Fn Try.prog 239 [V.d (du (dig x))] [] (V.tup [V.d (D.int IntKind.u64 (↑(if x < 18446744073709551616 then x else 0) : Int)), V.d (D.bool (decide (x < 18446744073709551616)))]) [] ∧ K (St.mk [(4, V.ptr 0 0), (5, V.d (du (dig x))), (6, V.d (du (dig y))), (7, V.d (D.int IntKind.u64 (↑(if x < 18446744073709551616 then x else 0) : Int))), (8, V.d (D.bool (decide (x < 18446744073709551616))))] [(0, some (Blk.mk [D.bool false, D.lst 0 []] true))] 11)) (fun K => by kernel_rfl) ?_
        refine ⟨u1, ?_⟩
        refine awp_sx prog_ok hP hnt [] [] [] [4, 5, 6, 7, 27] (by kernel_rfl) (G := fun K => K (St.mk [(4, V.ptr 0 0), (5, V.d (du (dig x))), (6, V.d (du (dig y))), (7, V.d (D.int IntKind.u64 (↑(if x < 18446744073709551616 then x else 0) : Int))), (27, V.d (D.bool (decide (x < 18446744073709551616))))] [(0, some (Blk.mk [D.bool false, D.lst 0 []] true))] 12)) (fun K => by kernel_rfl) ?_
        refine awp_cond rfl (fun e1 => ?_) (fun e1 => awp_skip ⟨(), [(0, 0)], trivial, ?_⟩)
        · have hx64 := of_decide_eq_true e1
          rw [if_pos hx64]
          refine awp_sx prog_ok hP hnt [] [.val (.tup [.d (.int .u64 (if y < 18446744073709551616 then y else 0 : Nat)), .d (.bool (decide (y < 18446744073709551616)))])] [] [4, 5, 6, 7, 9, 10] (by kernel_rfl) (G := fun K => Fn Try.prog 239 [V.d (du (dig y))] [] (V.tup [V.d (D.int IntKind.u64 (↑(if y < 18446744073709551616 then y else 0) : Int)), V.d (D.bool (decide (y < 18446744073709551616)))]) [] ∧ K (St.mk [(4, V.ptr 0 0), (5, V.d (du (dig x))), (6, V.d (du (dig y))), (7, V.d (D.int IntKind.u64 (↑x : Int))), (9, V.d (D.int IntKind.u64 (↑(if y < 18446744073709551616 then y else 0) : Int))), (10, V.d (D.bool (decide (y < 18446744073709551616))))] [(0, some (Blk.mk [D.bool false, D.lst 0 []] true))] 19)) (fun K => by kernel_rfl) ?_
          refine ⟨u2, ?_⟩
          refine awp_sx prog_ok hP hnt [] [] [] [4, 5, 6, 7, 9, 33] (by kernel_rfl) (G := fun K => K (St.mk [(4, V.ptr 0 0), (5, V.d (du (dig x))), (6, V.d (du (dig y))), (7, V.d (D.int IntKind.u64 (↑x : Int))), (9, V.d (D.int IntKind.u64 (↑(if y < 18446744073709551616 then y else 0) : Int))), (33, V.d (D.bool (decide (y < 18446744073709551616))))] [(0, some (Blk.mk [D.bool false, D.lst 0 []] true))] 20)) (fun K => by kernel_rfl) ?_
          refine awp_cond rfl (fun e2 => ?_) (fun e2 => awp_skip ⟨(), [(0, 0)], trivial, ?_⟩)
          · have hy64 := of_decide_eq_true e2
            rw [if_pos hy64]
            refine awp_cut (ι := Unit) (fun _ => ⟨[(4, .ptr 0 0), (7, .d (.int .u64 G))], [(0, some ⟨[.bool false, .lst 0 []], true⟩)], 1⟩) (fun _ => G < 18446744073709551616) ?_ ?_
            · refine awp_block ?_
              refine awp_loop (ι := Nat × Nat) (fun ⟨x, y⟩ => ⟨[(4, .ptr 0 0), (7, .d (.int .u64 x)), (9, .d (.int .u64 y))], [(0, some ⟨[.bool false, .lst 0 []], true⟩)], 1⟩) (fun ⟨x, y⟩ => Nat.gcd x y = G ∧ x < 18446744073709551616 ∧ y < 18446744073709551616) (fun ⟨x, y⟩ => y) (x, y) [(0, 0)] ⟨hg, hx64, hy64⟩ ?_ ?_
              · (constructor <;> simp [hl, envOk, memOk, conv, St.get, St.blk])
              rintro ⟨p, q⟩ ⟨hpg, hp64, hq64⟩
              refine awp_seq_k fun K2 hK2 => ?_
              refine awp_sx prog_ok hP hnt [] [] [] [4, 7, 9, 35] (by kernel_rfl) (G := fun K => K (St.mk [(4, V.ptr 0 0), (7, V.d (D.int IntKind.u64 (↑p : Int))), (9, V.d (D.int IntKind.u64 (↑q : Int))), (35, V.d (D.bool ((↑q : Int) != (0 : Int))))] [(0, some (Blk.mk [D.bool false, D.lst 0 []] true))] 3)) (fun K => by kernel_rfl) ?_
              refine awp_cond rfl (fun e3 => awp_skip (hK2 _ ?_)) (fun e3 => awp_exit ⟨(), [(0, 0)], ?_, ?_⟩)
              · simp at e3
                have em : (p : Int).tmod q = (p % q : Nat) := rfl
                have hml : p % q < q := Nat.mod_lt _ (by omega)
                refine awp_block ?_
                refine awp_x prog_ok hP hnt [(39, .int .u64 (p % q : Nat))] [] [] [4, 7, 9] (by kernel_rfl) (G := fun K => (↑q : Int) ≠ (0 : Int) ∧ (↑p : Int).tmod (↑q : Int) = (↑(p % q) : Int) ∧ K (St.mk [(4, V.ptr 0 0), (7, V.d (D.int IntKind.u64 (↑q : Int))), (9, V.d (D.int IntKind.u64 (↑(p % q) : Int)))] [(0, some (Blk.mk [D.bool false, D.lst 0 []] true))] 9)) (fun K => by kernel_rfl) ?_
                refine ⟨by omega, em, (q, p % q), [(0, 0)], ⟨⟨by rw [← hpg, Nat.gcd_comm p q, Nat.gcd_rec q p, Nat.gcd_comm], hq64, by omega⟩, hml⟩, ?_⟩
                (constructor <;> simp [hl, envOk, memOk, conv, St.get, St.blk])
              · simp at e3
                subst e3
                rw [Nat.gcd_zero_right] at hpg
                omega
              · simp at e3
                subst e3
                rw [Nat.gcd_zero_right] at hpg
                subst hpg
                (constructor <;> simp [hl, envOk, memOk, conv, St.get, St.blk])
            intro _ hG64
            have ho := of_fn G hG64
            have hG2 : (dig G).length ≤ 2 := dig_len (by omega)
            refine awp_sx prog_ok hP hnt [] [.val (.d (du (dig G))), .val (.agg (iz (G : Nat)))] [] [4] (by kernel_rfl) (G := fun K => Fn Try.prog 155 [V.d (D.int IntKind.u64 (↑G : Int))] [] (V.d (du (dig G))) [] ∧ Fn Try.prog 182 [V.d (D.bool false), V.d (du (dig G))] [] (V.agg [D.bool (decide ((↑G : Int) < (0 : Int))), du (dig (↑G : Int).natAbs)]) [] ∧ 0 + (iz (↑G : Int)).length ≤ [D.bool false, D.lst 0 []].length ∧ K (St.mk [(4, V.ptr 0 0)] [(0, some (Blk.mk [D.bool (decide ((↑G : Int) < (0 : Int))), du (dig (↑G : Int).natAbs)] true))] 5)) (fun K => by kernel_rfl) ?_
            exact ⟨ho, hfr G (by omega), by simp [iz], awp_ret ⟨.inl rfl, retC (l := true) rfl rfl rfl rfl⟩⟩
          · (constructor <;> simp [hl, envOk, memOk, conv, St.get, St.blk])
        · (constructor <;> simp [hl, envOk, memOk, conv, St.get, St.blk])
      intro _ _
      refine awp_sx prog_ok hP hnt [] [.val (.tup [.d (du (dig (x / y))), .d (du (dig (x % y)))])] [] [4, 6, 12] (by kernel_rfl) (G := fun K => Fn Try.prog 240 [V.d (du (dig x)), V.d (du (dig y))] [] (V.tup [V.d (du (dig (x / y))), V.d (du (dig (x % y)))]) [] ∧ K (St.mk [(4, V.ptr 0 0), (6, V.d (du (dig y))), (12, V.d (du (dig (x % y))))] [(0, some (Blk.mk [D.bool false, D.lst 0 []] true))] 9)) (fun K => by kernel_rfl) ?_
      refine ⟨hlo, ?_⟩
      refine awp_x prog_ok hP hnt [] [] [] [4, 5, 6] (by kernel_rfl) (G := fun K => K (St.mk [(4, V.ptr 0 0), (6, V.d (du (dig (x % y)))), (5, V.d (du (dig y)))] [(0, some (Blk.mk [D.bool false, D.lst 0 []] true))] 13)) (fun K => by kernel_rfl) ?_
      refine ⟨(y, x % y), [(0, 0)], ⟨⟨by rw [← hg, Nat.gcd_comm x y, Nat.gcd_rec y x, Nat.gcd_comm], hy, by have := hmod x y; omega⟩, Nat.mod_lt _ (by omega)⟩, ?_⟩
      (constructor <;> simp [hl, envOk, memOk, conv, St.get, St.blk])
    · simp at e
      have hy0 : y = 0 := by rw [← val_dig y, e]; rfl
      subst hy0
      rw [Nat.gcd_zero_right] at hg
      rw [← hg]; exact hx
    · simp at e
      have hy0 : y = 0 := by rw [← val_dig y, e]; rfl
      subst hy0
      rw [Nat.gcd_zero_right] at hg
      subst hg
      (constructor <;> simp [hl, envOk, memOk, conv, St.get, St.blk])
  intro _ hGl
  refine awp_sx prog_ok hP hnt [] [.val (.agg (iz (G : Nat)))] [] [4] (by kernel_rfl) (G := fun K => Fn Try.prog 182 [V.d (D.bool false), V.d (du (dig G))] [] (V.agg [D.bool (decide ((↑G : Int) < (0 : Int))), du (dig (↑G : Int).natAbs)]) [] ∧ 0 + (iz (↑G : Int)).length ≤ [D.bool false, D.lst 0 []].length ∧ K (St.mk [(4, V.ptr 0 0)] [(0, some (Blk.mk [D.bool (decide ((↑G : Int) < (0 : Int))), du (dig (↑G : Int).natAbs)] true))] 4)) (fun K => by kernel_rfl) ?_
  exact ⟨hfr G (by omega), by simp [iz], awp_ret ⟨.inl rfl, retC (l := true) rfl rfl rfl rfl⟩⟩
end Go.Abs

set_option linter.unusedVariables false
set_option linter.unusedSimpArgs false
namespace Go.Abs
open Go Go.Proofs
set_option maxRecDepth 100000

/-- a fraction's cells -/
def rt (x : Int) (d : Nat) : List D := [.bool (decide (x < 0)), du (dig x.natAbs), du (dig d)]
/-- in lowest terms -/
def rnum (x : Int) (d : Nat) : Int := if d = 0 then 0 else x.tdiv (Nat.gcd x.natAbs d)
def rden (x : Int) (d : Nat) : Nat := if d = 0 then 1 else d / Nat.gcd x.natAbs d

theorem iz_nat' (n : Nat) : iz (n : Int) = ic false (dig n) := by rw [iz_ic, decide_eq_false (by omega)]; rfl

theorem one_fn : Fn Try.prog 183 [] [] (.d (du (dig 1))) [] := by
  refine fn0 (nt := 2) (res := [.tmp 0]) Try.func183 rfl (by decide) rfl rfl rfl rfl ?_
  intro Cx hP hnt hl
  have := of_fn 1 (by decide)
  refine awp_sx prog_ok hP hnt [] [] [] [] (by kernel_rfl) (G := fun K => K (St.mk [] [] 1)) (fun K => by kernel_rfl) ?_
  refine awp_sx prog_ok hP hnt [] [.val (.d (du (dig 1)))] [] [0] (by kernel_rfl) (G := fun K => Fn Try.prog 155 [V.d (D.int IntKind.u64 (1 : Int))] [] (V.d (du (dig 1))) [] ∧ K (St.mk [(0, V.d (du (dig 1)))] [] 3)) (fun K => by kernel_rfl) ?_
  exact ⟨this, awp_ret ⟨.inl rfl, retD rfl⟩⟩

theorem isOne_fn (n : Nat) (h : (dig n).length ≤ 2 ^ 40) : Fn Try.prog 231 [.d (du (dig n))] [] (.d (.bool (decide (n = 1)))) [] := by
  refine fn0 (nt := 12) (res := [.tmp 2]) Try.func231 rfl (by decide) rfl rfl rfl rfl ?_
  intro Cx hP hnt hl
  refine awp_sx prog_ok hP hnt [] [] [] [0] (by kernel_rfl) (G := fun K => K (St.mk [(0, V.d (du (dig n)))] [] 1)) (fun K => by kernel_rfl) ?_
  by_cases hl1 : (dig n).length = 1
  · have hn : n < 4294967296 := dig_lt_of_len (k := 1) (by omega)
    have h0 : n ≠ 0 := fun h => by rw [h, dig_zero] at hl1; simp at hl1
    have hd : dig n = [n] := by rw [dig_pos h0, Nat.mod_eq_of_lt hn, Nat.div_eq_of_lt hn, dig_zero]
    rw [hd]
    refine awp_sx prog_ok hP hnt [(5, .bool true)] [] [some [.int .u32 n]] [2] (by kernel_rfl) (G := fun K => ((↑[n].length : Int) == (1 : Int)) = true ∧ ((0 : Int) ≤ (0 : Int) ∧ (0 : Int) < (↑[n].length : Int) ∧ 1 ≤ (u32s [n]).length) ∧ (List.drop 0 (u32s [n]))[0]? = some (D.int IntKind.u32 (↑n : Int)) ∧ K (St.mk [(2, V.d (D.bool ((↑n : Int) == (1 : Int))))] [] 11)) (fun K => by kernel_rfl) ?_
    refine ⟨rfl, ⟨by omega, by simp, by simp⟩, rfl, awp_ret ⟨.inl rfl, retD ?_⟩⟩
    have : ((n : Int) == 1) = decide (n = 1) := by rw [Bool.eq_iff_iff]; simp; omega
    rw [← this]; rfl
  · have hn1 : n ≠ 1 := fun h => by subst h; exact hl1 (by rw [dig_pos (by omega)]; simp [dig_zero])
    refine awp_sx prog_ok hP hnt [(5, .bool false), (11, .bool false)] [] [] [2] (by kernel_rfl) (G := fun K => ((↑(dig n).length : Int) == (1 : Int)) = false ∧ false = false ∧ K (St.mk [(2, V.d (D.bool false))] [] 11)) (fun K => by kernel_rfl) ?_
    rw [decide_eq_false hn1]
    refine ⟨by simp; omega, rfl, awp_ret ⟨.inl rfl, retD rfl⟩⟩

theorem rmade_fn (s : Bool) (l m : List Nat) (hl1 : l.length ≤ 2 ^ 38) (hm1 : m.length ≤ 2 ^ 38) (dl : Dg l) (dm : Dg m) :
    Fn Try.prog 185 [.agg (ic s l), .d (du m)] [] (.agg (rt (rnum (ival s l) (val m)) (rden (ival s l) (val m)))) [] := by
  refine fn0 (nt := 57) (res := [.cell 4 78]) Try.func185 rfl (by decide) rfl rfl rfl rfl ?_
  intro Cx hP hnt hl
  have hnm := nnorm_fn m (by omega) dm
  have hlm := dig_le dm
  obtain ⟨d, hd⟩ : ∃ d, d = val m := ⟨_, rfl⟩
  obtain ⟨x, hx⟩ : ∃ x, x = ival s l := ⟨_, rfl⟩
  have hxn : val l = x.natAbs := by rw [hx]; unfold ival; rw [sgn_abs]
  rw [← hd] at hnm hlm ⊢
  rw [← hx]
  have hz := isZero_fn l (by omega) dl
  rw [hxn] at hz
  have ho := one_fn
  have h1 := isOne_fn d (by omega)
  have hin := inorm_fn s l (by omega) dl
  rw [← hx] at hin
  refine awp_sx prog_ok hP hnt [] [] [] [1, 2, 4] (by kernel_rfl) (G := fun K => K (St.mk [(1, V.d (du m)), (2, V.ptr 0 0), (4, V.ptr 1 0)] [(0, some (Blk.mk [D.bool s, du l] true)), (1, some (Blk.mk [D.bool false, D.lst 0 [], D.lst 0 []] true))] 2)) (fun K => by kernel_rfl) ?_
  refine awp_sx prog_ok hP hnt [] [.val (.d (du (dig d)))] [] [1, 2, 4] (by kernel_rfl) (G := fun K => Fn Try.prog 230 [V.d (du m)] [] (V.d (du (dig d))) [] ∧ K (St.mk [(1, V.d (du (dig d))), (2, V.ptr 0 0), (4, V.ptr 1 0)] [(0, some (Blk.mk [D.bool s, du l] true)), (1, some (Blk.mk [D.bool false, D.lst 0 [], D.lst 0 []] true))] 5)) (fun K => by kernel_rfl) ?_
  refine ⟨hnm, ?_⟩
  refine awp_seq_k fun K hK => ?_
  by_cases hd0 : d = 0
  · subst hd0
    rw [show rnum x 0 = 0 from if_pos rfl, show rden x 0 = 1 from if_pos rfl]
    refine awp_sx prog_ok hP hnt [(15, .bool true), (20, .bool true)] [] [] [1, 2, 4, 20] (by kernel_rfl) (G := fun K => ((↑(dig 0).length : Int) == (0 : Int)) = true ∧ true = true ∧ K (St.mk [(1, V.d (du (dig 0))), (2, V.ptr 0 0), (4, V.ptr 1 0), (20, V.d (D.bool true))] [(0, some (Blk.mk [D.bool s, du l] true)), (1, some (Blk.mk [D.bool false, D.lst 0 [], D.lst 0 []] true))] 13)) (fun K => by kernel_rfl) ?_
    refine ⟨by rw [dig_zero]; rfl, rfl, awp_cond (b := true) rfl (fun _ => ?_) nofun⟩
    have hrt : rt 0 1 = [.bool false, .lst 0 [], du (dig 1)] := by unfold rt; rw [show (0 : Int).natAbs = 0 from rfl, dig_zero]; rfl
    rw [hrt]
    refine awp_sx prog_ok hP hnt [] [.val (.d (du (dig 1)))] [] [4] (by kernel_rfl) (G := fun K => Fn Try.prog 183 [] [] (V.d (du (dig 1))) [] ∧ 3 ≤ [D.bool false, D.lst 0 [], D.lst 0 []].length ∧ K (St.mk [(4, V.ptr 1 0)] [(0, some (Blk.mk [D.bool s, du l] true)), (1, some (Blk.mk [D.bool false, D.lst 0 [], du (dig 1)] true))] 16)) (fun K => by kernel_rfl) ?_
    exact ⟨ho, by simp, awp_ret ⟨.inl rfl, retC (l := true) rfl rfl rfl rfl⟩⟩
  have hdl : 0 < (dig d).length := by have := mt dig_len0.1 hd0; omega
  have hbe : (((dig d).length : Int) == 0) = false := by rw [beq_eq_false_iff_ne]; omega
  have hrn : rnum x d = x.tdiv (Nat.gcd x.natAbs d) := if_neg hd0
  have hrd : rden x d = d / Nat.gcd x.natAbs d := if_neg hd0
  by_cases hx0 : x = 0
  · have e1 : rnum x d = 0 := by rw [hrn, hx0]; simp
    have e2 : rden x d = 1 := by rw [hrd, hx0, show (0 : Int).natAbs = 0 from rfl, Nat.gcd_zero_left, Nat.div_self (by omega)]
    rw [e1, e2]
    have hrt : rt 0 1 = [.bool false, .lst 0 [], du (dig 1)] := by unfold rt; rw [show (0 : Int).natAbs = 0 from rfl, dig_zero]; rfl
    rw [hrt]
    rw [decide_eq_true (by omega)] at hz
    refine awp_sx prog_ok hP hnt [(15, .bool false), (20, .bool true)] [.val (.d (.bool true))] [some [du l]] [1, 2, 4, 20] (by kernel_rfl) (G := fun K => ((↑(dig d).length : Int) == (0 : Int)) = false ∧ [D.bool s, du l][1]? = some (du l) ∧ Fn Try.prog 187 [V.d (du l)] [] (V.d (D.bool true)) [] ∧ true = true ∧ K (St.mk [(1, V.d (du (dig d))), (2, V.ptr 0 0), (4, V.ptr 1 0), (20, V.d (D.bool true))] [(0, some (Blk.mk [D.bool s, du l] true)), (1, some (Blk.mk [D.bool false, D.lst 0 [], D.lst 0 []] true))] 13)) (fun K => by kernel_rfl) ?_
    refine ⟨hbe, rfl, hz, rfl, awp_cond (b := true) rfl (fun _ => ?_) nofun⟩
    refine awp_sx prog_ok hP hnt [] [.val (.d (du (dig 1)))] [] [4] (by kernel_rfl) (G := fun K => Fn Try.prog 183 [] [] (V.d (du (dig 1))) [] ∧ 3 ≤ [D.bool false, D.lst 0 [], D.lst 0 []].length ∧ K (St.mk [(4, V.ptr 1 0)] [(0, some (Blk.mk [D.bool s, du l] true)), (1, some (Blk.mk [D.bool false, D.lst 0 [], du (dig 1)] true))] 16)) (fun K => by kernel_rfl) ?_
    exact ⟨ho, by simp, awp_ret ⟨.inl rfl, retC (l := true) rfl rfl rfl rfl⟩⟩
  rw [decide_eq_false (by omega)] at hz
  refine awp_sx prog_ok hP hnt [(15, .bool false), (20, .bool false)] [.val (.d (.bool false))] [some [du l]] [1, 2, 4, 20] (by kernel_rfl) (G := fun K => ((↑(dig d).length : Int) == (0 : Int)) = false ∧ [D.bool s, du l][1]? = some (du l) ∧ Fn Try.prog 187 [V.d (du l)] [] (V.d (D.bool false)) [] ∧ false = false ∧ K (St.mk [(1, V.d (du (dig d))), (2, V.ptr 0 0), (4, V.ptr 1 0), (20, V.d (D.bool false))] [(0, some (Blk.mk [D.bool s, du l] true)), (1, some (Blk.mk [D.bool false, D.lst 0 [], D.lst 0 []] true))] 13)) (fun K => by kernel_rfl) ?_
  refine ⟨hbe, rfl, hz, rfl, awp_cond (b := false) rfl nofun fun _ => awp_skip (hK _ ?_)⟩
  refine awp_seq_k fun K2 hK2 => ?_
  refine awp_sx prog_ok hP hnt [] [.val (.d (.bool (decide (d = 1))))] [] [1, 2, 4, 24] (by kernel_rfl) (G := fun K => Fn Try.prog 231 [V.d (du (dig d))] [] (V.d (D.bool (decide (d = 1)))) [] ∧ K (St.mk [(1, V.d (du (dig d))), (2, V.ptr 0 0), (4, V.ptr 1 0), (24, V.d (D.bool (decide (d = 1))))] [(0, some (Blk.mk [D.bool s, du l] true)), (1, some (Blk.mk [D.bool false, D.lst 0 [], D.lst 0 []] true))] 15)) (fun K => by kernel_rfl) ?_
  refine ⟨h1, awp_cond rfl (fun e => ?_) (fun e => awp_skip (hK2 _ ?_))⟩
  · have hd1 := of_decide_eq_true e
    rw [hrn, hrd, hd1, Nat.gcd_one_right, show x.tdiv ((1 : Nat) : Int) = x from Int.tdiv_one x, Nat.div_one]
    refine awp_sx prog_ok hP hnt [] [.val (.agg (iz x))] [some (ic s l)] [4] (by kernel_rfl) (G := fun K => ([D.bool s, du l][0]? = some (D.bool s) ∧ [D.bool s, du l][1]? = some (du l)) ∧ Fn Try.prog 165 [V.agg [D.bool s, du l]] [] (V.agg [D.bool (decide (x < (0 : Int))), du (dig x.natAbs)]) [] ∧ 0 + (setCells (setCells (TI.mk (Kind.struct [(0, 2), (2, 1)]) 3 56 [D.bool false, D.lst 0 [], D.lst 0 []]).zero 0 (iz x)) 2 [du (dig 1)]).length ≤ [D.bool false, D.lst 0 [], D.lst 0 []].length ∧ K (St.mk [(4, V.ptr 1 0)] [(0, some (Blk.mk [D.bool s, du l] true)), (1, some (Blk.mk [D.bool (decide (x < (0 : Int))), du (dig x.natAbs), du (dig 1)] true))] 20)) (fun K => by kernel_rfl) ?_
    exact ⟨⟨rfl, rfl⟩, hin, by simp [setCells_len], awp_ret ⟨.inl rfl, retC (l := true) rfl rfl rfl rfl⟩⟩
  have hd1 := of_decide_eq_false e
  have hfr := from_fn false (dig d) (by omega) (dig_lt d)
  rw [show ival false (dig d) = (d : Int) from by unfold ival sgn; rw [val_dig]; rfl] at hfr
  refine awp_sx prog_ok hP hnt [] [.val (.agg (iz (d : Nat)))] [] [1, 2, 4, 5] (by kernel_rfl) (G := fun K => Fn Try.prog 182 [V.d (D.bool false), V.d (du (dig d))] [] (V.agg [D.bool (decide ((↑d : Int) < (0 : Int))), du (dig (↑d : Int).natAbs)]) [] ∧ 0 + (iz (↑d : Int)).length ≤ (TI.mk (Kind.struct [(0, 1), (1, 1)]) 2 32 [D.bool false, D.lst 0 []]).zero.length ∧ K (St.mk [(1, V.d (du (dig d))), (2, V.ptr 0 0), (4, V.ptr 1 0), (5, V.ptr 17 0)] [(0, some (Blk.mk [D.bool s, du l] true)), (1, some (Blk.mk [D.bool false, D.lst 0 [], D.lst 0 []] true)), (17, some (Blk.mk [D.bool (decide ((↑d : Int) < (0 : Int))), du (dig (↑d : Int).natAbs)] true))] 19)) (fun K => by kernel_rfl) ?_
  refine ⟨hfr, by simp [iz], ?_⟩
  obtain ⟨g, hg⟩ : ∃ g, g = Nat.gcd x.natAbs d := ⟨_, rfl⟩
  have hgx : g ∣ x.natAbs := hg ▸ Nat.gcd_dvd_left _ _
  have hgd : g ∣ d := hg ▸ Nat.gcd_dvd_right _ _
  have hg0 : 0 < g := Nat.pos_of_ne_zero fun h => by rw [h] at hgd; exact hd0 (Nat.eq_zero_of_zero_dvd hgd)
  have hgle : g ≤ d := Nat.le_of_dvd (by omega) hgd
  have hgl : (dig g).length ≤ 2 ^ 38 := Nat.le_trans (dig_len (k := (dig d).length) (by have := val_lt (dig_lt d); rw [val_dig] at this; omega)) (by omega)
  have hgc := igcd_fn s false l (dig d) hl1 (by omega) dl (dig_lt d)
  rw [val_dig, hxn, ← hg, ← iz_nat'] at hgc
  rw [← hg] at hrn hrd
  have hg1 := isOne_fn g (by omega)
  refine awp_sx prog_ok hP hnt [] [.val (.agg (iz (g : Nat)))] [some (ic s l), some (iz (d : Nat))] [1, 2, 4, 5, 6] (by kernel_rfl) (G := fun K => ([D.bool s, du l][0]? = some (D.bool s) ∧ [D.bool s, du l][1]? = some (du l)) ∧ ([D.bool (decide ((↑d : Int) < (0 : Int))), du (dig (↑d : Int).natAbs)][0]? = some (D.bool (decide ((↑d : Int) < (0 : Int)))) ∧ [D.bool (decide ((↑d : Int) < (0 : Int))), du (dig (↑d : Int).natAbs)][1]? = some (du (dig (↑d : Int).natAbs))) ∧ Fn Try.prog 202 [V.agg [D.bool s, du l], V.agg [D.bool (decide ((↑d : Int) < (0 : Int))), du (dig (↑d : Int).natAbs)]] [] (V.agg [D.bool (decide ((↑g : Int) < (0 : Int))), du (dig (↑g : Int).natAbs)]) [] ∧ 0 + (iz (↑g : Int)).length ≤ (TI.mk (Kind.struct [(0, 1), (1, 1)]) 2 32 [D.bool false, D.lst 0 []]).zero.length ∧ K (St.mk [(1, V.d (du (dig d))), (2, V.ptr 0 0), (4, V.ptr 1 0), (5, V.ptr 17 0), (6, V.ptr 22 0)] [(0, some (Blk.mk [D.bool s, du l] true)), (1, some (Blk.mk [D.bool false, D.lst 0 [], D.lst 0 []] true)), (17, some (Blk.mk [D.bool (decide ((↑d : Int) < (0 : Int))), du (dig (↑d : Int).natAbs)] true)), (22, some (Blk.mk [D.bool (decide ((↑g : Int) < (0 : Int))), du (dig (↑g : Int).natAbs)] true))] 24)) (fun K => by kernel_rfl) ?_
  refine ⟨⟨rfl, rfl⟩, ⟨rfl, rfl⟩, hgc, by simp [iz], ?_⟩
  refine awp_seq_k fun K3 hK3 => ?_
  refine awp_sx prog_ok hP hnt [] [.val (.d (.bool (decide (g = 1))))] [some [du (dig g)]] [1, 2, 4, 5, 6, 36] (by kernel_rfl) (G := fun K => [D.bool (decide ((↑g : Int) < (0 : Int))), du (dig (↑g : Int).natAbs)][1]? = some (du (dig g)) ∧ Fn Try.prog 231 [V.d (du (dig g))] [] (V.d (D.bool (decide (g = 1)))) [] ∧ K (St.mk [(1, V.d (du (dig d))), (2, V.ptr 0 0), (4, V.ptr 1 0), (5, V.ptr 17 0), (6, V.ptr 22 0), (36, V.d (D.bool (decide (g = 1))))] [(0, some (Blk.mk [D.bool s, du l] true)), (1, some (Blk.mk [D.bool false, D.lst 0 [], D.lst 0 []] true)), (17, some (Blk.mk [D.bool (decide ((↑d : Int) < (0 : Int))), du (dig (↑d : Int).natAbs)] true)), (22, some (Blk.mk [D.bool (decide ((↑g : Int) < (0 : Int))), du (dig (↑g : Int).natAbs)] true))] 27)) (fun K => by kernel_rfl) ?_
  refine ⟨rfl, hg1, awp_cond rfl (fun e2 => ?_) (fun e2 => awp_skip (hK3 _ ?_))⟩
  · have hgg := of_decide_eq_true e2
    rw [hrn, hrd, hgg, show x.tdiv ((1 : Nat) : Int) = x from Int.tdiv_one x, Nat.div_one]
    refine awp_sx prog_ok hP hnt [] [.val (.agg (iz x))] [some (ic s l)] [4] (by kernel_rfl) (G := fun K => ([D.bool s, du l][0]? = some (D.bool s) ∧ [D.bool s, du l][1]? = some (du l)) ∧ Fn Try.prog 165 [V.agg [D.bool s, du l]] [] (V.agg [D.bool (decide (x < (0 : Int))), du (dig x.natAbs)]) [] ∧ 0 + (setCells (setCells (TI.mk (Kind.struct [(0, 2), (2, 1)]) 3 56 [D.bool false, D.lst 0 [], D.lst 0 []]).zero 0 (iz x)) 2 [du (dig d)]).length ≤ [D.bool false, D.lst 0 [], D.lst 0 []].length ∧ K (St.mk [(4, V.ptr 1 0)] [(0, some (Blk.mk [D.bool s, du l] true)), (1, some (Blk.mk [D.bool (decide (x < (0 : Int))), du (dig x.natAbs), du (dig d)] true)), (17, some (Blk.mk [D.bool (decide ((↑d : Int) < (0 : Int))), du (dig (↑d : Int).natAbs)] true)), (22, some (Blk.mk [D.bool (decide ((↑1 : Int) < (0 : Int))), du (dig (↑1 : Int).natAbs)] true))] 32)) (fun K => by kernel_rfl) ?_
    exact ⟨⟨rfl, rfl⟩, hin, by simp [setCells_len], awp_ret ⟨.inl rfl, retC (l := true) rfl rfl rfl rfl⟩⟩
  have x1 := exact_fn s false l (dig g) hl1 hgl dl (dig_lt g) (by rw [val_dig]; omega)
  have x2 := exact_fn false false (dig d) (dig g) (by omega) hgl (dig_lt d) (dig_lt g) (by rw [val_dig]; omega)
  rw [show ival false (dig g) = (g : Int) from by unfold ival sgn; rw [val_dig]; rfl, ← iz_nat'] at x1 x2
  rw [show ival false (dig d) = (d : Int) from by unfold ival sgn; rw [val_dig]; rfl, ← iz_nat', if_pos (Int.natCast_dvd_natCast.2 hgd), if_pos (Int.natCast_dvd_natCast.2 hgd), show ((d : Int)).tdiv g = ((d / g : Nat) : Int) from rfl] at x2
  have hgx2 : (g : Int) ∣ x := Int.ofNat_dvd_left.2 hgx
  rw [← hx, if_pos hgx2, if_pos hgx2, ← hrn] at x1
  rw [← hrd] at x2
  refine awp_sx prog_ok hP hnt [] [.val (.tup [.agg (iz (rnum x d)), .d (.int .i64 0)])] [some (ic s l), some (iz (g : Nat))] [4, 5, 6, 7] (by kernel_rfl) (G := fun K => ([D.bool s, du l][0]? = some (D.bool s) ∧ [D.bool s, du l][1]? = some (du l)) ∧ ([D.bool (decide ((↑g : Int) < (0 : Int))), du (dig (↑g : Int).natAbs)][0]? = some (D.bool (decide ((↑g : Int) < (0 : Int)))) ∧ [D.bool (decide ((↑g : Int) < (0 : Int))), du (dig (↑g : Int).natAbs)][1]? = some (du (dig (↑g : Int).natAbs))) ∧ Fn Try.prog 204 [V.agg [D.bool s, du l], V.agg [D.bool (decide ((↑g : Int) < (0 : Int))), du (dig (↑g : Int).natAbs)]] [] (V.tup [V.agg [D.bool (decide (rnum x d < (0 : Int))), du (dig (rnum x d).natAbs)], V.d (D.int IntKind.i64 (0 : Int))]) [] ∧ 0 + (iz (rnum x d)).length ≤ (TI.mk (Kind.struct [(0, 1), (1, 1)]) 2 32 [D.bool false, D.lst 0 []]).zero.length ∧ K (St.mk [(4, V.ptr 1 0), (5, V.ptr 17 0), (6, V.ptr 22 0), (7, V.ptr 33 0)] [(0, some (Blk.mk [D.bool s, du l] true)), (1, some (Blk.mk [D.bool false, D.lst 0 [], D.lst 0 []] true)), (17, some (Blk.mk [D.bool (decide ((↑d : Int) < (0 : Int))), du (dig (↑d : Int).natAbs)] true)), (22, some (Blk.mk [D.bool (decide ((↑g : Int) < (0 : Int))), du (dig (↑g : Int).natAbs)] true)), (33, some (Blk.mk [D.bool (decide (rnum x d < (0 : Int))), du (dig (rnum x d).natAbs)] true))] 36)) (fun K => by kernel_rfl) ?_
  refine ⟨⟨rfl, rfl⟩, ⟨rfl, rfl⟩, x1, by simp [iz], ?_⟩
  refine awp_sx prog_ok hP hnt [] [.val (.tup [.agg (iz (rden x d : Nat)), .d (.int .i64 0)])] [some (iz (d : Nat)), some (iz (g : Nat))] [4, 7, 9] (by kernel_rfl) (G := fun K => ([D.bool (decide ((↑d : Int) < (0 : Int))), du (dig (↑d : Int).natAbs)][0]? = some (D.bool (decide ((↑d : Int) < (0 : Int)))) ∧ [D.bool (decide ((↑d : Int) < (0 : Int))), du (dig (↑d : Int).natAbs)][1]? = some (du (dig (↑d : Int).natAbs))) ∧ ([D.bool (decide ((↑g : Int) < (0 : Int))), du (dig (↑g : Int).natAbs)][0]? = some (D.bool (decide ((↑g : Int) < (0 : Int)))) ∧ [D.bool (decide ((↑g : Int) < (0 : Int))), du (dig (↑g : Int).natAbs)][1]? = some (du (dig (↑g : Int).natAbs))) ∧ Fn Try.prog 204 [V.agg [D.bool (decide ((↑d : Int) < (0 : Int))), du (dig (↑d : Int).natAbs)], V.agg [D.bool (decide ((↑g : Int) < (0 : Int))), du (dig (↑g : Int).natAbs)]] [] (V.tup [V.agg [D.bool (decide ((↑(rden x d) : Int) < (0 : Int))), du (dig (↑(rden x d) : Int).natAbs)], V.d (D.int IntKind.i64 (0 : Int))]) [] ∧ 0 + (iz (↑(rden x d) : Int)).length ≤ (TI.mk (Kind.struct [(0, 1), (1, 1)]) 2 32 [D.bool false, D.lst 0 []]).zero.length ∧ K (St.mk [(4, V.ptr 1 0), (7, V.ptr 33 0), (9, V.ptr 42 0)] [(0, some (Blk.mk [D.bool s, du l] true)), (1, some (Blk.mk [D.bool false, D.lst 0 [], D.lst 0 []] true)), (17, some (Blk.mk [D.bool (decide ((↑d : Int) < (0 : Int))), du (dig (↑d : Int).natAbs)] true)), (22, some (Blk.mk [D.bool (decide ((↑g : Int) < (0 : Int))), du (dig (↑g : Int).natAbs)] true)), (33, some (Blk.mk [D.bool (decide (rnum x d < (0 : Int))), du (dig (rnum x d).natAbs)] true)), (42, some (Blk.mk [D.bool (decide ((↑(rden x d) : Int) < (0 : Int))), du (dig (↑(rden x d) : Int).natAbs)] true))] 45)) (fun K => by kernel_rfl) ?_
  refine ⟨⟨rfl, rfl⟩, ⟨rfl, rfl⟩, x2, by simp [iz], ?_⟩
  refine awp_sx prog_ok hP hnt [] [] [some (iz (rnum x d)), some [du (dig (rden x d))]] [4] (by kernel_rfl) (G := fun K => ([D.bool (decide (rnum x d < (0 : Int))), du (dig (rnum x d).natAbs)][0]? = some (D.bool (decide (rnum x d < (0 : Int)))) ∧ [D.bool (decide (rnum x d < (0 : Int))), du (dig (rnum x d).natAbs)][1]? = some (du (dig (rnum x d).natAbs))) ∧ [D.bool (decide ((↑(rden x d) : Int) < (0 : Int))), du (dig (↑(rden x d) : Int).natAbs)][1]? = some (du (dig (rden x d))) ∧ 0 + (setCells (setCells (TI.mk (Kind.struct [(0, 2), (2, 1)]) 3 56 [D.bool false, D.lst 0 [], D.lst 0 []]).zero 0 (iz (rnum x d))) 2 [du (dig (rden x d))]).length ≤ [D.bool false, D.lst 0 [], D.lst 0 []].length ∧ K (St.mk [(4, V.ptr 1 0)] [(0, some (Blk.mk [D.bool s, du l] true)), (1, some (Blk.mk [D.bool (decide (rnum x d < (0 : Int))), du (dig (rnum x d).natAbs), du (dig (rden x d))] true)), (17, some (Blk.mk [D.bool (decide ((↑d : Int) < (0 : Int))), du (dig (↑d : Int).natAbs)] true)), (22, some (Blk.mk [D.bool (decide ((↑g : Int) < (0 : Int))), du (dig (↑g : Int).natAbs)] true)), (33, some (Blk.mk [D.bool (decide (rnum x d < (0 : Int))), du (dig (rnum x d).natAbs)] true)), (42, some (Blk.mk [D.bool (decide ((↑(rden x d) : Int) < (0 : Int))), du (dig (↑(rden x d) : Int).natAbs)] true))] 50)) (fun K => by kernel_rfl) ?_
  exact ⟨⟨rfl, rfl⟩, rfl, by simp [setCells_len], awp_ret ⟨.inl rfl, retC (l := true) rfl rfl rfl rfl⟩⟩

theorem retCC {T : Tab} {c1 c2 t b1 b2 : Nat} {s : St} {cs1 cs2 : List D} {l1 l2 : Bool} (h1 : s.get c1 = .ptr b1 0) (h2 : s.blk b1 = some ⟨cs1, l1⟩) (h3 : s.get c2 = .ptr b2 0) (h4 : s.blk b2 = some ⟨cs2, l2⟩)
    (ha : Tab.agg T t = true) (hs1 : T.size t = cs1.length) (hs2 : T.size t = cs2.length) : RetOk T [.cell c1 t, .cell c2 t] (.tup [.agg cs1, .agg cs2]) [] s := by
  unfold RetOk evalRes
  rw [h1]
  simp only [h2, ha, if_true, evalRes, h3, h4]
  refine ⟨by omega, by omega, .inl ⟨?_, trivial⟩⟩
  rw [List.drop_zero, List.drop_zero, hs1, List.take_of_length_le (Nat.le_refl _), ← hs1, hs2, List.take_of_length_le (Nat.le_refl _)]
  rfl

end Go.Abs

set_option linter.unusedVariables false
set_option linter.unusedSimpArgs false
namespace Go.Abs
open Go Go.Proofs Poly
set_option maxRecDepth 100000

end Go.Abs

set_option linter.unusedVariables false
set_option linter.unusedSimpArgs false
namespace Go.Abs
open Go Go.Proofs
set_option maxRecDepth 100000

end Go.Abs

set_option linter.unusedVariables false
set_option linter.unusedSimpArgs false
namespace Go.Abs
open Go Go.Proofs Poly
set_option maxRecDepth 100000

end Go.Abs

set_option linter.unusedVariables false
set_option linter.unusedSimpArgs false
namespace Go.Abs
open Go Go.Proofs Poly
set_option maxRecDepth 100000

/-- sign changes among the first values, and the last value other than 0 -/
def vr (F : Nat → Int) : Nat → Nat × Int
  | 0 => (0, 0)
  | k + 1 => if F k = 0 then vr F k else (if (vr F k).2 ≠ 0 ∧ (vr F k).2.sign ≠ (F k).sign then (vr F k).1 + 1 else (vr F k).1, F k)
noncomputable def vars (f : Poly) : Nat := (vr f.c f.sz).1

end Go.Abs

set_option linter.unusedVariables false
set_option linter.unusedSimpArgs false
namespace Go.Abs
open Go Go.Proofs Poly
set_option maxRecDepth 100000

end Go.Abs

set_option linter.unusedVariables false
set_option linter.unusedSimpArgs false
namespace Go.Abs
open Go Go.Proofs Poly
set_option maxRecDepth 100000

/-- Horner's scheme for f(x + c): the coefficients after k steps -/
def hn (F : Nat → Int) (L : Nat) (c : Int) : Nat → Nat → Int
  | 0, _ => 0
  | k + 1, i => (if i = 0 then F (L - 1 - k) else hn F L c k (i - 1)) + c * hn F L c k i
def hS : Nat → Nat
  | 0 => 0
  | k + 1 => 129 * hS k + 100
/-- the next row while it is filled -/
def nx (o : Nat → Int) (c : Int) (j i : Nat) : Int := if i < j then (if i = 0 then 0 else o (i - 1)) + c * o i else if i = j ∧ i ≠ 0 then o (i - 1) else 0

end Go.Abs

set_option linter.unusedVariables false
set_option linter.unusedSimpArgs false
namespace Go.Abs
open Go Go.Proofs Poly
set_option maxRecDepth 100000

end Go.Abs

set_option linter.unusedVariables false
set_option linter.unusedSimpArgs false
namespace Go.Abs
open Go Go.Proofs Poly
set_option maxRecDepth 100000

end Go.Abs

set_option linter.unusedVariables false
set_option linter.unusedSimpArgs false
namespace Go.Abs
open Go Go.Proofs Poly
set_option maxRecDepth 100000

end Go.Abs

set_option linter.unusedVariables false
set_option linter.unusedSimpArgs false
namespace Go.Abs
open Poly

/-! ### Values at fractions -/
def evr (c : Nat → Int) : Nat → Rat → Rat
  | 0, _ => 0
  | n + 1, x => (c 0 : Rat) + x * evr (fun k => c (k + 1)) n x
noncomputable def evQ (f : Poly) (x : Rat) : Rat := evr f.c f.sz x
/-! ### With a common denominator -/
def hb (c : Nat → Int) : Nat → Int → Int → Int
  | 0, _, _ => 0
  | n + 1, x, d => c 0 * d ^ n + x * hb (fun k => c (k + 1)) n x d
/-- what is left above number i -/
def hbt (c : Nat → Int) (n i : Nat) (x d : Int) : Int := hb (fun k => c (i + k)) (n - i) x d
theorem hbt_top (c : Nat → Int) (n : Nat) (x d : Int) : hbt c n n x d = 0 := by rw [hbt, Nat.sub_self]; rfl
theorem hbt_zero (c : Nat → Int) (n : Nat) (x d : Int) : hbt c n 0 x d = hb c n x d := by
  rw [hbt, Nat.sub_zero]; congr 1; funext k; rw [Nat.zero_add]
theorem hbt_step (c : Nat → Int) {n i : Nat} (h : i < n) (x d : Int) : hbt c n i x d = hbt c n (i + 1) x d * x + d ^ (n - 1 - i) * c i := by
  rw [hbt, hbt, show n - i = (n - (i + 1)) + 1 by omega, hb, show n - 1 - i = n - (i + 1) by omega, Nat.add_zero,
    show (fun k => c (i + (k + 1))) = (fun k => c (i + 1 + k)) from funext fun k => by congr 1; omega]
  grind
theorem hb_evr {x d : Int} (hd : d ≠ 0) : ∀ (n : Nat) (c : Nat → Int), ((hb c (n + 1) x d : Int) : Rat) = (d : Rat) ^ n * evr c (n + 1) ((x : Rat) / d)
  | 0, c => by simp only [hb, evr]; grind
  | n + 1, c => by
    have hd' : (d : Rat) ≠ 0 := by
      intro h; exact hd (by exact_mod_cast h)
    have ih := hb_evr (x := x) hd n (fun k => c (k + 1))
    rw [hb, evr, Rat.intCast_add, Rat.intCast_mul, Rat.intCast_mul, Rat.intCast_pow, ih]
    have e : (x : Rat) = (x : Rat) / d * d := (Rat.div_mul_cancel hd').symm
    generalize (x : Rat) / d = y at *
    rw [e]
    grind
theorem hb_evQ (f : Poly) (q : Rat) : ((hb f.c f.sz q.num q.den : Int) : Rat) = (((q.den : Int) : Rat)) ^ (f.sz - 1) * evQ f q := by
  rcases Nat.eq_zero_or_pos f.sz with h | h
  · rw [evQ, h]; simp only [hb, evr]; grind
  · obtain ⟨n, hn⟩ : ∃ n, f.sz = n + 1 := ⟨f.sz - 1, by omega⟩
    rw [evQ, hn, hb_evr (by have := q.den_nz; omega), Nat.add_sub_cancel]
    congr 2
    have := Rat.mkRat_self q
    rw [Rat.mkRat_eq_div] at this
    exact this
theorem hb_mk (f : Poly) (q : Rat) : mkRat (hb f.c f.sz q.num q.den) (q.den ^ (f.sz - 1)) = evQ f q := by
  have h := hb_evQ f q
  have hd : (((q.den : Int) : Rat)) ≠ 0 := by intro h; have := q.den_nz; exact this (by exact_mod_cast h)
  rw [Rat.mkRat_eq_div, h]
  have hp : (((q.den : Int) : Rat)) ^ (f.sz - 1) ≠ 0 := by
    have : 0 < (((q.den : Int) : Rat)) := Rat.intCast_pos.2 (by have := q.den_pos; omega)
    exact Ne.symm (Rat.ne_of_lt (Rat.pow_pos this))
  rw [show (((q.den ^ (f.sz - 1) : Nat)) : Rat) = (((q.den : Int) : Rat)) ^ (f.sz - 1) by push_cast; rfl]
  generalize (((q.den : Int) : Rat)) ^ (f.sz - 1) = P at *
  rw [Rat.mul_comm, Rat.mul_div_cancel hp]
theorem mkRat_sign (n : Int) {d : Nat} (h : d ≠ 0) : (mkRat n d).num.sign = n.sign := by
  rw [Rat.num_mkRat, if_neg h]
  have hg : (0 : Int) < (d.gcd n.natAbs : Nat) := by have := Nat.gcd_pos_of_pos_left n.natAbs (Nat.pos_of_ne_zero h); omega
  have hdv : ((d.gcd n.natAbs : Nat) : Int) ∣ n := Int.ofNat_dvd_left.2 (Nat.gcd_dvd_right _ _)
  generalize ((d.gcd n.natAbs : Nat) : Int) = g at *
  obtain ⟨m, rfl⟩ := hdv
  rw [Int.mul_ediv_cancel_left _ (by omega), Int.sign_mul, Int.sign_eq_one_of_pos hg, Int.one_mul]
theorem hb_sign (f : Poly) (q : Rat) : (hb f.c f.sz q.num q.den).sign = (evQ f q).num.sign := by
  rw [← hb_mk, mkRat_sign]
  exact Nat.ne_of_gt (Nat.pow_pos q.den_pos)

/-! ### Sizes -/
def Qb (K : Nat) (q : Rat) : Prop := q.num.natAbs < 2 ^ K ∧ q.den < 2 ^ K
theorem Qb.mono {K L : Nat} {q : Rat} (h : Qb K q) (hK : K ≤ L) : Qb L q := ⟨Nat.lt_of_lt_of_le h.1 (pw hK), Nat.lt_of_lt_of_le h.2 (pw hK)⟩
theorem mkRat_b {n : Int} {d K : Nat} (hn : n.natAbs < 2 ^ K) (hd : d < 2 ^ K) (h1 : 1 ≤ K) : Qb K (mkRat n d) := by
  have hk := pw h1
  refine ⟨?_, ?_⟩
  · rw [Rat.num_mkRat]
    split
    · rw [Int.natAbs_zero]; omega
    · exact Nat.lt_of_le_of_lt (by rw [Int.natAbs_ediv_of_dvd (Int.ofNat_dvd_left.2 (Nat.gcd_dvd_right _ _))]; exact Nat.div_le_self _ _) hn
  · rw [Rat.den_mkRat]
    split
    · omega
    · exact Nat.lt_of_le_of_lt (Nat.div_le_self _ _) hd
theorem Qb.add {K L : Nat} {a b : Rat} (ha : Qb K a) (hb : Qb L b) : Qb (K + L + 1) (a + b) := by
  rw [Rat.add_def']
  refine mkRat_b ?_ ?_ (by omega)
  · have h1 := mul_lt2 ha.1 hb.2
    have h2 := mul_lt2 hb.1 ha.2
    have := Int.natAbs_add_le (a.num * b.den) (b.num * a.den)
    rw [Int.natAbs_mul, Int.natAbs_mul, Int.natAbs_natCast, Int.natAbs_natCast] at this
    rw [Nat.add_comm L K] at h2
    rw [Nat.pow_succ]; omega
  · have h1 := mul_lt2 ha.2 hb.2
    rw [Nat.pow_succ]; omega
theorem Qb.mul {K L : Nat} {a b : Rat} (ha : Qb K a) (hb : Qb L b) : Qb (K + L + 1) (a * b) := by
  rw [Rat.mul_def']
  refine mkRat_b ?_ ?_ (by omega)
  · have h1 := mul_lt2 ha.1 hb.1
    rw [Int.natAbs_mul, Nat.pow_succ]; omega
  · have h1 := mul_lt2 ha.2 hb.2
    rw [Nat.pow_succ]; omega
theorem pow_b {x : Int} {L : Nat} (hx : x.natAbs < 2 ^ L) : ∀ n, (x ^ n).natAbs < 2 ^ (n * L + 1)
  | 0 => by rw [Int.pow_zero, Nat.zero_mul]; decide
  | n + 1 => by
    rw [Int.pow_succ, Int.natAbs_mul, show (n + 1) * L + 1 = (n * L + 1) + L by rw [Nat.succ_mul]; omega]
    exact mul_lt2 (pow_b hx n) hx
theorem hb_b {K L : Nat} {x d : Int} (hx : x.natAbs < 2 ^ L) (hd : d.natAbs < 2 ^ L) : ∀ (n : Nat) {c : Nat → Int}, (∀ k, (c k).natAbs < 2 ^ K) → (hb c n x d).natAbs < 2 ^ (K + n * (L + 1) + 1)
  | 0, c, _ => Nat.pow_pos (by omega)
  | n + 1, c, hc => by
    have ih := hb_b (K := K) hx hd n (c := fun k => c (k + 1)) (fun k => hc _)
    have h1 := mul_lt2 (hc 0) (pow_b hd n)
    have h2 := mul_lt2 hx ih
    rw [hb]
    have := Int.natAbs_add_le (c 0 * d ^ n) (x * hb (fun k => c (k + 1)) n x d)
    rw [Int.natAbs_mul, Int.natAbs_mul] at this
    have h3 : 2 ^ (K + (n * L + 1)) ≤ 2 ^ (K + n * (L + 1) + 1 + L) := pw (by rw [Nat.mul_add]; omega)
    have h4 : 2 ^ (K + (n + 1) * (L + 1) + 1) = 2 ^ (K + n * (L + 1) + 1 + L) * 2 := by rw [← Nat.pow_succ]; congr 1; rw [Nat.succ_mul]; omega
    rw [Nat.add_comm L] at h2
    rw [h4]; omega
theorem hbt_b {K L : Nat} {x d : Int} (hx : x.natAbs < 2 ^ L) (hd : d.natAbs < 2 ^ L) {n i : Nat} {c : Nat → Int} (hc : ∀ k, (c k).natAbs < 2 ^ K) : (hbt c n i x d).natAbs < 2 ^ (K + n * (L + 1) + 1) := by
  refine Nat.lt_of_lt_of_le (hb_b (K := K) hx hd (n - i) fun k => hc _) (pw ?_)
  have := Nat.mul_le_mul_right (L + 1) (show n - i ≤ n by omega)
  omega
/-! ### The sign beyond a bound -/
theorem evn_abs {H : Nat} {x : Int} (hx : H + 2 ≤ x.natAbs) : ∀ (n : Nat) (c : Nat → Int), (∀ k, (c k).natAbs ≤ H) → (evn c n x).natAbs < x.natAbs ^ n
  | 0, c, _ => by simp [evn]
  | n + 1, c, hc => by
    have ih := evn_abs hx n (fun k => c (k + 1)) (fun k => hc _)
    rw [evn]
    have h1 := Int.natAbs_add_le (c 0) (x * evn (fun k => c (k + 1)) n x)
    rw [Int.natAbs_mul] at h1
    have h2 := hc 0
    have h3 : x.natAbs * ((evn (fun k => c (k + 1)) n x).natAbs + 1) ≤ x.natAbs * x.natAbs ^ n := Nat.mul_le_mul_left _ ih
    rw [Nat.mul_add, Nat.mul_one] at h3
    rw [Nat.pow_succ, Nat.mul_comm (x.natAbs ^ n)]
    omega
theorem evn_snoc (x : Int) : ∀ (n : Nat) (c : Nat → Int), evn c (n + 1) x = evn c n x + c n * x ^ n
  | 0, c => by simp [evn]
  | n + 1, c => by
    rw [evn, evn_snoc x n (fun k => c (k + 1)), evn, Int.pow_succ]; grind
theorem sign_top {a b : Int} (h : a.natAbs < b.natAbs) : (a + b).sign = b.sign := by
  rcases Int.lt_trichotomy b 0 with h1 | h1 | h1
  · rw [Int.sign_eq_neg_one_of_neg h1, Int.sign_eq_neg_one_of_neg (by omega)]
  · omega
  · rw [Int.sign_eq_one_of_pos h1, Int.sign_eq_one_of_pos (by omega)]
theorem sign_pow (x : Int) : ∀ n : Nat, (x ^ n).sign = x.sign ^ n
  | 0 => by simp
  | n + 1 => by rw [Int.pow_succ, Int.pow_succ, Int.sign_mul, sign_pow x n]
theorem ev_sign {H : Nat} {f : Poly} {x : Int} (hc : ∀ k, (f.c k).natAbs ≤ H) (hx : H + 2 ≤ x.natAbs) : (f.ev x).sign = f.lc.sign * x.sign ^ (f.sz - 1) := by
  rcases Nat.eq_zero_or_pos f.sz with h | h
  · rw [eq_zero.2 h, ev_zero, lc_zero]; simp
  · obtain ⟨n, hn⟩ : ∃ n, f.sz = n + 1 := ⟨f.sz - 1, by omega⟩
    have hl : f.lc = f.c n := by unfold lc; rw [hn]; rfl
    have h0 : f.c n ≠ 0 := hl ▸ lc_ne (fun e => by have := eq_zero.1 e; omega)
    rw [ev_eq (n := n + 1) (fun k hk => above (by omega)), evn_snoc, sign_top, hl, hn, Nat.add_sub_cancel, Int.sign_mul]
    · rw [sign_pow]
    · have h1 := evn_abs hx n f.c hc
      rw [Int.natAbs_mul, Int.natAbs_pow]
      have h2 : 1 * x.natAbs ^ n ≤ (f.c n).natAbs * x.natAbs ^ n := Nat.mul_le_mul_right _ (by omega)
      omega
theorem evQ_int (f : Poly) (x : Int) : evQ f (x : Rat) = (f.ev x : Int) := by
  rw [evQ, ev_eq (n := f.sz) (fun k hk => above hk)]
  have : ∀ (n : Nat) (c : Nat → Int), evr c n (x : Rat) = ((evn c n x : Int) : Rat) := by
    intro n
    induction n with
    | zero => intro c; rfl
    | succ n ih => intro c; rw [evr, evn, ih, Rat.intCast_add, Rat.intCast_mul]
  exact this _ _
end Go.Abs
namespace Go.Abs
open Poly
end Go.Abs

set_option linter.unusedVariables false
set_option linter.unusedSimpArgs false
namespace Go.Abs
open Go Go.Proofs Poly
set_option maxRecDepth 100000

/-! ### Fractions of the program -/
def rr (s : Bool) (l m : List Nat) : List D := [.bool s, du l, du m]
def rq (q : Rat) : List D := rt q.num q.den
/-- a fraction as it lies -/
def RR (K : Nat) (r : List D) (q : Rat) : Prop := ∃ s l m, r = rr s l m ∧ Dg l ∧ Dg m ∧ l.length ≤ K ∧ m.length ≤ K ∧ mkRat (ival s l) (val m) = q
theorem rnum_mk (x : Int) (d : Nat) : rnum x d = (mkRat x d).num := by
  rw [Rat.num_mkRat]
  unfold rnum
  split
  · rfl
  · rw [Nat.gcd_comm, Int.tdiv_eq_ediv_of_dvd (Int.ofNat_dvd_left.2 (Nat.gcd_dvd_right _ _))]
theorem rden_mk (x : Int) (d : Nat) : rden x d = (mkRat x d).den := by
  rw [Rat.den_mkRat]
  unfold rden
  split
  · rfl
  · rw [Nat.gcd_comm]
theorem digb {n K : Nat} (h : n < 2 ^ K) (hK : K ≤ 2 ^ 40) : (dig n).length ≤ 2 ^ 36 := by
  have := (riz_bits (z := (n : Int)) (K := K) (by simpa using h) hK).2
  have h9 : (riz (n : Int)).2 = dig n := by show dig (n : Int).natAbs = _; rw [Int.natAbs_natCast]
  rwa [h9] at this
theorem RR.of_q {K : Nat} {q : Rat} (h : Qb K q) (hK : K ≤ 2 ^ 40) : RR (2 ^ 36) (rq q) q :=
  ⟨decide (q.num < 0), dig q.num.natAbs, dig q.den, rfl, dig_lt _, dig_lt _, digb h.1 hK, digb h.2 hK, by rw [ival_iz, val_dig, Rat.mkRat_self]⟩
end Go.Abs

set_option linter.unusedVariables false
set_option linter.unusedSimpArgs false
namespace Go.Abs
open Go Go.Proofs Poly
set_option maxRecDepth 100000

theorem normalR {K : Nat} {r : List D} {q : Rat} (h : RR K r q) (hK : K ≤ 2 ^ 38) : Fn Try.prog 226 [.agg r] [] (.agg (rq q)) [] := by
  obtain ⟨s, l, m, rfl, dl, dm, hl1, hm1, rfl⟩ := h
  refine fn0 (nt := 8) (res := [.cell 2 78]) Try.func226 rfl (by decide) rfl rfl rfl rfl ?_
  intro Cx hP hnt hl
  have hq := rmade_fn s l m (by omega) (by omega) dl dm
  rw [rnum_mk, rden_mk] at hq
  refine awp_sx prog_ok hP hnt [] [] [] [1, 2] (by kernel_rfl) (G := fun K => K (St.mk [(1, V.ptr 0 0), (2, V.ptr 1 0)] [(0, some (Blk.mk [D.bool s, du l, du m] true)), (1, some (Blk.mk [D.bool false, D.lst 0 [], D.lst 0 []] true))] 2)) (fun K => by kernel_rfl) ?_
  refine awp_sx prog_ok hP hnt [] [.val (.agg (rq (mkRat (ival s l) (val m))))] [some (ic s l), some [du m]] [2] (by kernel_rfl) (G := fun K => ([D.bool s, du l, du m][0]? = some (D.bool s) ∧ [D.bool s, du l, du m][1]? = some (du l)) ∧ [D.bool s, du l, du m][2]? = some (du m) ∧ Fn Try.prog 185 [V.agg [D.bool s, du l], V.d (du m)] [] (V.agg [D.bool (decide ((mkRat (ival s l) (val m)).num < (0 : Int))), du (dig (mkRat (ival s l) (val m)).num.natAbs), du (dig (mkRat (ival s l) (val m)).den)]) [] ∧ 0 + (rq (mkRat (ival s l) (val m))).length ≤ [D.bool false, D.lst 0 [], D.lst 0 []].length ∧ K (St.mk [(2, V.ptr 1 0)] [(0, some (Blk.mk [D.bool s, du l, du m] true)), (1, some (Blk.mk [D.bool (decide ((mkRat (ival s l) (val m)).num < (0 : Int))), du (dig (mkRat (ival s l) (val m)).num.natAbs), du (dig (mkRat (ival s l) (val m)).den)] true))] 8)) (fun K => by kernel_rfl) ?_
  exact ⟨⟨rfl, rfl⟩, rfl, hq, by simp [rq, rt], awp_ret ⟨.inl rfl, retC (l := true) rfl rfl rfl rfl⟩⟩

theorem fromR (s : Bool) (l : List Nat) (hl1 : l.length ≤ 2 ^ 40) (dl : Dg l) : Fn Try.prog 99 [.agg (ic s l)] [] (.agg (rq ((ival s l : Int) : Rat))) [] := by
  refine fn0 (nt := 7) (res := [.cell 2 78]) Try.func99 rfl (by decide) rfl rfl rfl rfl ?_
  intro Cx hP hnt hl
  have hin := inorm_fn s l hl1 dl
  have ho := one_fn
  have e : rq ((ival s l : Int) : Rat) = rt (ival s l) 1 := rfl
  rw [e]
  refine awp_sx prog_ok hP hnt [] [] [] [1, 2] (by kernel_rfl) (G := fun K => K (St.mk [(1, V.ptr 0 0), (2, V.ptr 1 0)] [(0, some (Blk.mk [D.bool s, du l] true)), (1, some (Blk.mk [D.bool false, D.lst 0 [], D.lst 0 []] true))] 2)) (fun K => by kernel_rfl) ?_
  refine awp_sx prog_ok hP hnt [] [.val (.agg (iz (ival s l))), .val (.d (du (dig 1)))] [some (ic s l)] [2] (by kernel_rfl) (G := fun K => ([D.bool s, du l][0]? = some (D.bool s) ∧ [D.bool s, du l][1]? = some (du l)) ∧ Fn Try.prog 165 [V.agg [D.bool s, du l]] [] (V.agg [D.bool (decide (ival s l < (0 : Int))), du (dig (ival s l).natAbs)]) [] ∧ Fn Try.prog 183 [] [] (V.d (du (dig 1))) [] ∧ 0 + (setCells (setCells (TI.mk (Kind.struct [(0, 2), (2, 1)]) 3 56 [D.bool false, D.lst 0 [], D.lst 0 []]).zero 0 (iz (ival s l))) 2 [du (dig 1)]).length ≤ [D.bool false, D.lst 0 [], D.lst 0 []].length ∧ K (St.mk [(2, V.ptr 1 0)] [(0, some (Blk.mk [D.bool s, du l] true)), (1, some (Blk.mk [D.bool (decide (ival s l < (0 : Int))), du (dig (ival s l).natAbs), du (dig 1)] true))] 7)) (fun K => by kernel_rfl) ?_
  exact ⟨⟨rfl, rfl⟩, hin, ho, by simp [setCells_len], awp_ret ⟨.inl rfl, retC (l := true) rfl rfl rfl rfl⟩⟩

theorem scaledR {KR n K L : Nat} {i : Nat} {ps : List RI} {r : List D} {q : Rat} (hi : i ≤ 12) (hp : W i ps) (hf : Bd n K (pol ps)) (hr : RR KR r q) (hKR : KR ≤ 2 ^ 38) (hq : Qb L q) (hB : K + n * (L + 1) + 1 ≤ 2 ^ 36) :
    Fn Try.prog 178 [.d (rp ps), .agg r] [] (.tup [.agg (iz (((q.den ^ ((pol ps).sz - 1) : Nat)) : Int)), .agg (iz (hb (pol ps).c (pol ps).sz q.num q.den))]) [] := by
  have hn := normalR hr hKR
  obtain ⟨s, l, m, rfl, _⟩ := hr
  have h2 := lim2 hi
  have h4 := lim4 hi
  have hln := hp.len
  have ht := trimW hi hp
  obtain ⟨f, hfe⟩ : ∃ f, f = pol ps := ⟨_, rfl⟩
  have htl : (rtrim ps).length = f.sz := by rw [rtrim_lenp, hfe]
  have htg := fun k => rtrim_cp ps k
  rw [← hfe] at htg hf ⊢
  obtain ⟨N, hN⟩ : ∃ N, N = f.sz := ⟨_, rfl⟩
  have hfs : N ≤ n := hN ▸ hf.len
  have hps : N ≤ ps.length := by rw [hN, hfe]; exact pol_sz ps
  rw [← hN] at htl htg ⊢
  obtain ⟨x, hx⟩ : ∃ x, x = q.num := ⟨_, rfl⟩
  obtain ⟨d, hd⟩ : ∃ d, d = q.den := ⟨_, rfl⟩
  have hxb : x.natAbs < 2 ^ L := hx ▸ hq.1
  have hdb : d < 2 ^ L := hd ▸ hq.2
  have hrq : rq q = rt x d := by rw [hx, hd]; rfl
  rw [hrq] at hn
  rw [← hx, ← hd]
  have hLs : n * (L + 1) = n * L + n := by rw [Nat.mul_add, Nat.mul_one]
  have hpb : ∀ k, k ≤ N → ((d ^ k : Nat) : Int).natAbs < 2 ^ (n * L + 1) := fun k hk => by
    have h1 := pow_b (x := (d : Int)) (L := L) (by rw [Int.natAbs_natCast]; exact hdb) k
    rw [← Int.natCast_pow] at h1
    exact Nat.lt_of_lt_of_le h1 (pw (by have := Nat.mul_le_mul_right L (show k ≤ n by omega); omega))
  have hhb : ∀ k, (hbt f.c N k x d).natAbs < 2 ^ (K + n * (L + 1) + 1) := fun k => Nat.lt_of_lt_of_le (hbt_b (K := K) hxb (by rw [Int.natAbs_natCast]; exact hdb) hf.ok) (pw (by have := Nat.mul_le_mul_right (L + 1) hfs; omega))
  have h1 := iOf_fn 1 (by decide) (by decide)
  refine fn0 (nt := 44) (res := [.cell 4 46, .cell 5 46]) Try.func178 rfl (by decide) rfl rfl rfl rfl ?_
  intro Cx hP hnt hl
  refine awp_sx prog_ok hP hnt [] [] [] [0, 3, 4, 5] (by kernel_rfl) (G := fun K => K (St.mk [(0, V.d (rp ps)), (3, V.ptr 0 0), (4, V.ptr 1 0), (5, V.ptr 2 0)] [(0, some (Blk.mk [D.bool s, du l, du m] true)), (1, some (Blk.mk [D.bool false, D.lst 0 []] true)), (2, some (Blk.mk [D.bool false, D.lst 0 []] true))] 3)) (fun K => by kernel_rfl) ?_
  refine awp_sx prog_ok hP hnt [] [.val (.d (rp (rtrim ps))), .val (.agg (rt x d))] [some (rr s l m)] [0, 3, 4, 5] (by kernel_rfl) (G := fun K => Fn Try.prog 161 [V.d (rp ps)] [] (V.d (rp (rtrim ps))) [] ∧ ([D.bool s, du l, du m][0]? = some (D.bool s) ∧ [D.bool s, du l, du m][1]? = some (du l) ∧ [D.bool s, du l, du m][2]? = some (du m)) ∧ Fn Try.prog 226 [V.agg [D.bool s, du l, du m]] [] (V.agg [D.bool (decide (x < (0 : Int))), du (dig x.natAbs), du (dig d)]) [] ∧ 0 + (rt x d).length ≤ [D.bool s, du l, du m].length ∧ K (St.mk [(0, V.d (rp (rtrim ps))), (3, V.ptr 0 0), (4, V.ptr 1 0), (5, V.ptr 2 0)] [(0, some (Blk.mk [D.bool (decide (x < (0 : Int))), du (dig x.natAbs), du (dig d)] true)), (1, some (Blk.mk [D.bool false, D.lst 0 []] true)), (2, some (Blk.mk [D.bool false, D.lst 0 []] true))] 9)) (fun K => by kernel_rfl) ?_
  refine ⟨ht, ⟨rfl, rfl, rfl⟩, hn, by simp [rt], ?_⟩
  refine awp_sx prog_ok hP hnt [] [.val (.agg (iz 1))] [] [0, 3, 4, 5, 6, 7] (by kernel_rfl) (G := fun K => Fn Try.prog 74 [V.d (D.int IntKind.i64 (1 : Int))] [] (V.agg [D.bool (decide ((1 : Int) < (0 : Int))), du (dig (Int.natAbs (1 : Int)))]) [] ∧ 2 ≤ (TI.mk (Kind.struct [(0, 1), (1, 1)]) 2 32 [D.bool false, D.lst 0 []]).zero.length ∧ 2 ≤ (TI.mk (Kind.struct [(0, 1), (1, 1)]) 2 32 [D.bool false, D.lst 0 []]).zero.length ∧ K (St.mk [(0, V.d (rp (rtrim ps))), (3, V.ptr 0 0), (4, V.ptr 1 0), (5, V.ptr 2 0), (6, V.ptr 11 0), (7, V.ptr 12 0)] [(0, some (Blk.mk [D.bool (decide (x < (0 : Int))), du (dig x.natAbs), du (dig d)] true)), (1, some (Blk.mk [D.bool false, D.lst 0 []] true)), (2, some (Blk.mk [D.bool false, D.lst 0 []] true)), (11, some (Blk.mk [D.bool false, D.lst 0 []] true)), (12, some (Blk.mk [D.bool (decide ((1 : Int) < (0 : Int))), du (dig (Int.natAbs (1 : Int)))] true))] 15)) (fun K => by kernel_rfl) ?_
  refine ⟨h1, by simp [setCells_len], by simp [iz], ?_⟩
  refine awp_sx prog_ok hP hnt [] [] [some [du (dig d)]] [0, 3, 4, 5, 6, 7, 8] (by kernel_rfl) (G := fun K => [D.bool (decide (x < (0 : Int))), du (dig x.natAbs), du (dig d)][2]? = some (du (dig d)) ∧ 0 + (setCells (TI.mk (Kind.struct [(0, 1), (1, 1)]) 2 32 [D.bool false, D.lst 0 []]).zero 1 [du (dig d)]).length ≤ (TI.mk (Kind.struct [(0, 1), (1, 1)]) 2 32 [D.bool false, D.lst 0 []]).zero.length ∧ K (St.mk [(0, V.d (rp (rtrim ps))), (3, V.ptr 0 0), (4, V.ptr 1 0), (5, V.ptr 2 0), (6, V.ptr 11 0), (7, V.ptr 12 0), (8, V.ptr 18 0)] [(0, some (Blk.mk [D.bool (decide (x < (0 : Int))), du (dig x.natAbs), du (dig d)] true)), (1, some (Blk.mk [D.bool false, D.lst 0 []] true)), (2, some (Blk.mk [D.bool false, D.lst 0 []] true)), (11, some (Blk.mk [D.bool false, D.lst 0 []] true)), (12, some (Blk.mk [D.bool (decide ((1 : Int) < (0 : Int))), du (dig (Int.natAbs (1 : Int)))] true)), (18, some (Blk.mk [D.bool false, du (dig d)] true))] 20)) (fun K => by kernel_rfl) ?_
  refine ⟨rfl, by simp [setCells_len], ?_⟩
  have ed : [D.bool false, du (dig d)] = iz (d : Int) := by rw [iz_nat']; rfl
  rw [ed]
  refine awp_cut (ι := Unit) (fun _ => ⟨[(4, .ptr 0 0), (5, .ptr 1 0), (6, .ptr 2 0), (7, .ptr 3 0)], [(0, some ⟨[.bool false, .lst 0 []], true⟩), (1, some ⟨[.bool false, .lst 0 []], true⟩), (2, some ⟨iz (hb f.c N x d), true⟩), (3, some ⟨iz ((d ^ (N - 1) : Nat) : Int), true⟩)], 4⟩) (fun _ => True) ?_ ?_
  · refine awp_sx prog_ok hP hnt [(21, .int .i64 ((N : Int) - 1))] [] [] [0, 3, 4, 5, 6, 7, 8, 9] (by kernel_rfl) (G := fun K => IntKind.i64.wrap ((↑(rtrim ps).length : Int) - (1 : Int)) = (↑N : Int) - (1 : Int) ∧ K (St.mk [(0, V.d (rp (rtrim ps))), (3, V.ptr 0 0), (4, V.ptr 1 0), (5, V.ptr 2 0), (6, V.ptr 11 0), (7, V.ptr 12 0), (8, V.ptr 18 0), (9, V.d (D.int IntKind.i64 ((↑N : Int) - (1 : Int))))] [(0, some (Blk.mk [D.bool (decide (x < (0 : Int))), du (dig x.natAbs), du (dig d)] true)), (1, some (Blk.mk [D.bool false, D.lst 0 []] true)), (2, some (Blk.mk [D.bool false, D.lst 0 []] true)), (11, some (Blk.mk [D.bool false, D.lst 0 []] true)), (12, some (Blk.mk [D.bool (decide ((1 : Int) < (0 : Int))), du (dig (Int.natAbs (1 : Int)))] true)), (18, some (Blk.mk [D.bool (decide ((↑d : Int) < (0 : Int))), du (dig (↑d : Int).natAbs)] true))] 24)) (fun K => by kernel_rfl) ?_
    refine ⟨by rw [htl, w64] <;> omega, ?_⟩
    refine awp_block ?_
    refine awp_loop (ι := Nat) (fun j => ⟨[(0, .d (rp (rtrim ps))), (3, .ptr 0 0), (4, .ptr 1 0), (5, .ptr 2 0), (6, .ptr 3 0), (7, .ptr 4 0), (8, .ptr 5 0), (9, .d (.int .i64 ((N : Int) - 1 - j)))],
        [(0, some ⟨rt x d, true⟩), (1, some ⟨[.bool false, .lst 0 []], true⟩), (2, some ⟨[.bool false, .lst 0 []], true⟩), (3, some ⟨iz (hbt f.c N (N - j) x d), true⟩), (4, some ⟨iz ((d ^ (min j (N - 1)) : Nat) : Int), true⟩), (5, some ⟨iz (d : Int), true⟩)], 6⟩)
      (fun j => j ≤ N) (fun j => N - j) 0 [(0, 0), (1, 1), (2, 2), (3, 11), (4, 12), (5, 18)] (by omega) ?_ ?_
    · have e1 : iz (hbt f.c N N x d) = [.bool false, .lst 0 []] := by rw [hbt_top]; simp [iz, dig_zero, du, u32s]
      have e2 : ((d ^ (min 0 (N - 1)) : Nat) : Int) = 1 := by rw [Nat.zero_min]; rfl
      rw [Nat.sub_zero, e1, e2]
      (constructor <;> simp [hl, envOk, memOk, conv, St.get, St.blk, iz, rt])
    intro j hj
    refine awp_seq_k fun K1 hK1 => ?_
    refine awp_sx prog_ok hP hnt [] [] [] [0, 3, 4, 5, 6, 7, 8, 9, 23] (by kernel_rfl) (G := fun K => K (St.mk [(0, V.d (rp (rtrim ps))), (3, V.ptr 0 0), (4, V.ptr 1 0), (5, V.ptr 2 0), (6, V.ptr 3 0), (7, V.ptr 4 0), (8, V.ptr 5 0), (9, V.d (D.int IntKind.i64 ((↑N : Int) - (1 : Int) - (↑j : Int)))), (23, V.d (D.bool (decide ((↑N : Int) - (1 : Int) - (↑j : Int) ≥ (0 : Int)))))] [(0, some (Blk.mk [D.bool (decide (x < (0 : Int))), du (dig x.natAbs), du (dig d)] true)), (1, some (Blk.mk [D.bool false, D.lst 0 []] true)), (2, some (Blk.mk [D.bool false, D.lst 0 []] true)), (3, some (Blk.mk [D.bool (decide (hbt f.c N (N - j) x (↑d : Int) < (0 : Int))), du (dig (hbt f.c N (N - j) x (↑d : Int)).natAbs)] true)), (4, some (Blk.mk [D.bool (decide ((↑(d ^ min j (N - 1)) : Int) < (0 : Int))), du (dig (↑(d ^ min j (N - 1)) : Int).natAbs)] true)), (5, some (Blk.mk [D.bool (decide ((↑d : Int) < (0 : Int))), du (dig (↑d : Int).natAbs)] true))] 8)) (fun K => by kernel_rfl) ?_
    refine awp_cond rfl (fun e => awp_skip (hK1 _ ?_)) (fun e => awp_exit ⟨(), [(0, 1), (1, 2), (2, 3), (3, 4)], trivial, ?_⟩)
    · simp at e
      have ej : (N : Int) - 1 - j = ((N - 1 - j : Nat) : Int) := by omega
      rw [ej]
      have hjm : min j (N - 1) = j := by omega
      rw [hjm]
      obtain ⟨i0, hi0⟩ : ∃ i0, i0 = N - 1 - j := ⟨_, rfl⟩
      rw [← hi0]
      obtain ⟨p, hp1⟩ := get_ex (l := ps) (i := i0) (by omega)
      have hp2 : (rtrim ps)[i0]? = some p := by rw [htg, if_pos (by omega), hp1]
      have hpo := hp.ok p (List.mem_of_getElem? hp1)
      have hfx : ival p.1 p.2 = f.c i0 := by rw [hfe, pol_c, co_some hp1]; rfl
      have hst := hbt_step f.c (n := N) (i := i0) (by omega) x d
      rw [show i0 + 1 = N - j by omega, show N - 1 - i0 = j by omega, ← Int.natCast_pow] at hst
      obtain ⟨A, hA⟩ : ∃ A, A = hbt f.c N (N - j) x d := ⟨_, rfl⟩
      have hAb := hhb (N - j)
      rw [← hA] at hst hAb ⊢
      have hPb := hpb j (by omega)
      have hPb2 := hpb (j + 1) (by omega)
      obtain ⟨P, hP0⟩ : ∃ P, P = d ^ j := ⟨_, rfl⟩
      have hPs : d ^ (j + 1) = P * d := by rw [hP0, Nat.pow_succ]
      rw [← hP0] at hst hPb ⊢
      have hL1 : n * L ≤ 2 ^ 36 := by omega
      have hn1 : 1 ≤ n := by omega
      have hL2 : L ≤ n * L := Nat.le_mul_of_pos_left L hn1
      have m1 := mulI hAb hxb (by omega) (by omega)
      have m2 := mulI3 (s := p.1) (l := p.2) (y := (P : Int)) (L := n * L + 1) hpo.1 (by have := hpo.2; omega) hPb (by omega)
      rw [hfx] at m2
      have b1 : (A * x).natAbs < 2 ^ (K + n * (L + 1) + 1 + L) := by rw [Int.natAbs_mul]; exact mul_lt2 hAb hxb
      have b2 : ((P : Int) * f.c i0).natAbs < 2 ^ (n * L + 1 + K) := by rw [Int.natAbs_mul]; exact mul_lt2 hPb (hf.ok i0)
      have ad := addI b1 b2 (by omega) (by omega)
      rw [← hst] at ad
      refine awp_seq_k fun K2 hK2 => ?_
      refine awp_block ?_
      refine awp_sx prog_ok hP hnt [] [.val (.agg (iz (A * x))), .val (.agg (iz ((P : Int) * f.c i0))), .val (.agg (iz (hbt f.c N i0 x d)))] [some (iz A), some (iz x), some (iz (P : Nat)), some [.bool p.1, du p.2]] [0, 3, 4, 5, 6, 7, 8, 9] (by kernel_rfl) (G := fun K => ([D.bool (decide (A < (0 : Int))), du (dig A.natAbs)][0]? = some (D.bool (decide (A < (0 : Int)))) ∧ [D.bool (decide (A < (0 : Int))), du (dig A.natAbs)][1]? = some (du (dig A.natAbs))) ∧ ([D.bool (decide (x < (0 : Int))), du (dig x.natAbs), du (dig d)][0]? = some (D.bool (decide (x < (0 : Int)))) ∧ [D.bool (decide (x < (0 : Int))), du (dig x.natAbs), du (dig d)][1]? = some (du (dig x.natAbs))) ∧ Fn Try.prog 123 [V.agg [D.bool (decide (A < (0 : Int))), du (dig A.natAbs)], V.agg [D.bool (decide (x < (0 : Int))), du (dig x.natAbs)]] [] (V.agg [D.bool (decide (A * x < (0 : Int))), du (dig (A * x).natAbs)]) [] ∧ ([D.bool (decide ((↑P : Int) < (0 : Int))), du (dig (↑P : Int).natAbs)][0]? = some (D.bool (decide ((↑P : Int) < (0 : Int)))) ∧ [D.bool (decide ((↑P : Int) < (0 : Int))), du (dig (↑P : Int).natAbs)][1]? = some (du (dig (↑P : Int).natAbs))) ∧ ((0 : Int) ≤ (↑i0 : Int) ∧ (↑i0 : Int) < (↑(rtrim ps).length : Int) ∧ ((↑i0 : Int).toNat + 1) * 2 ≤ (rc (rtrim ps)).length) ∧ ((List.drop ((↑i0 : Int).toNat * 2) (rc (rtrim ps)))[0]? = some (D.bool p.fst) ∧ (List.drop ((↑i0 : Int).toNat * 2) (rc (rtrim ps)))[1]? = some (du p.snd)) ∧ Fn Try.prog 123 [V.agg [D.bool (decide ((↑P : Int) < (0 : Int))), du (dig (↑P : Int).natAbs)], V.agg [D.bool p.fst, du p.snd]] [] (V.agg [D.bool (decide ((↑P : Int) * f.c i0 < (0 : Int))), du (dig ((↑P : Int) * f.c i0).natAbs)]) [] ∧ Fn Try.prog 96 [V.agg [D.bool (decide (A * x < (0 : Int))), du (dig (A * x).natAbs)], V.agg [D.bool (decide ((↑P : Int) * f.c i0 < (0 : Int))), du (dig ((↑P : Int) * f.c i0).natAbs)]] [] (V.agg [D.bool (decide (hbt f.c N i0 x (↑d : Int) < (0 : Int))), du (dig (hbt f.c N i0 x (↑d : Int)).natAbs)]) [] ∧ 0 + (iz (hbt f.c N i0 x (↑d : Int))).length ≤ [D.bool (decide (A < (0 : Int))), du (dig A.natAbs)].length ∧ K (St.mk [(0, V.d (rp (rtrim ps))), (3, V.ptr 0 0), (4, V.ptr 1 0), (5, V.ptr 2 0), (6, V.ptr 3 0), (7, V.ptr 4 0), (8, V.ptr 5 0), (9, V.d (D.int IntKind.i64 (↑i0 : Int)))] [(0, some (Blk.mk [D.bool (decide (x < (0 : Int))), du (dig x.natAbs), du (dig d)] true)), (1, some (Blk.mk [D.bool false, D.lst 0 []] true)), (2, some (Blk.mk [D.bool false, D.lst 0 []] true)), (3, some (Blk.mk [D.bool (decide (hbt f.c N i0 x (↑d : Int) < (0 : Int))), du (dig (hbt f.c N i0 x (↑d : Int)).natAbs)] true)), (4, some (Blk.mk [D.bool (decide ((↑P : Int) < (0 : Int))), du (dig (↑P : Int).natAbs)] true)), (5, some (Blk.mk [D.bool (decide ((↑d : Int) < (0 : Int))), du (dig (↑d : Int).natAbs)] true))] 20)) (fun K => by kernel_rfl) ?_
      refine ⟨⟨rfl, rfl⟩, ⟨rfl, rfl⟩, m1, ⟨rfl, rfl⟩, ⟨by omega, by rw [htl]; omega, by simp; omega⟩, by rw [rc_drop0 hp2]; exact ⟨rfl, rfl⟩, m2, ad, by simp [iz], ?_⟩
      refine awp_sx prog_ok hP hnt [] [] [] [0, 3, 4, 5, 6, 7, 8, 9, 38] (by kernel_rfl) (G := fun K => K (St.mk [(0, V.d (rp (rtrim ps))), (3, V.ptr 0 0), (4, V.ptr 1 0), (5, V.ptr 2 0), (6, V.ptr 3 0), (7, V.ptr 4 0), (8, V.ptr 5 0), (9, V.d (D.int IntKind.i64 (↑i0 : Int))), (38, V.d (D.bool (decide ((↑i0 : Int) > (0 : Int)))))] [(0, some (Blk.mk [D.bool (decide (x < (0 : Int))), du (dig x.natAbs), du (dig d)] true)), (1, some (Blk.mk [D.bool false, D.lst 0 []] true)), (2, some (Blk.mk [D.bool false, D.lst 0 []] true)), (3, some (Blk.mk [D.bool (decide (hbt f.c N i0 x (↑d : Int) < (0 : Int))), du (dig (hbt f.c N i0 x (↑d : Int)).natAbs)] true)), (4, some (Blk.mk [D.bool (decide ((↑P : Int) < (0 : Int))), du (dig (↑P : Int).natAbs)] true)), (5, some (Blk.mk [D.bool (decide ((↑d : Int) < (0 : Int))), du (dig (↑d : Int).natAbs)] true))] 22)) (fun K => by kernel_rfl) ?_
      refine awp_cond rfl (fun e3 => ?_) (fun e3 => awp_skip (hK2 _ ?_))
      · simp at e3
        have m3 := mulI (x := (P : Int)) (y := (d : Int)) hPb (by rw [Int.natAbs_natCast]; exact hdb) (by omega) (by omega)
        rw [show (P : Int) * d = ((P * d : Nat) : Int) by rw [Int.natCast_mul], ← hPs] at m3
        refine awp_x prog_ok hP hnt [] [.val (.agg (iz ((d ^ (j + 1) : Nat) : Int)))] [some (iz (P : Nat)), some (iz (d : Nat))] [0, 3, 4, 5, 6, 7, 8, 9] (by kernel_rfl) (G := fun K => ([D.bool (decide ((↑P : Int) < (0 : Int))), du (dig (↑P : Int).natAbs)][0]? = some (D.bool (decide ((↑P : Int) < (0 : Int)))) ∧ [D.bool (decide ((↑P : Int) < (0 : Int))), du (dig (↑P : Int).natAbs)][1]? = some (du (dig (↑P : Int).natAbs))) ∧ ([D.bool (decide ((↑d : Int) < (0 : Int))), du (dig (↑d : Int).natAbs)][0]? = some (D.bool (decide ((↑d : Int) < (0 : Int)))) ∧ [D.bool (decide ((↑d : Int) < (0 : Int))), du (dig (↑d : Int).natAbs)][1]? = some (du (dig (↑d : Int).natAbs))) ∧ Fn Try.prog 123 [V.agg [D.bool (decide ((↑P : Int) < (0 : Int))), du (dig (↑P : Int).natAbs)], V.agg [D.bool (decide ((↑d : Int) < (0 : Int))), du (dig (↑d : Int).natAbs)]] [] (V.agg [D.bool (decide ((↑(d ^ (j + 1)) : Int) < (0 : Int))), du (dig (↑(d ^ (j + 1)) : Int).natAbs)]) [] ∧ 0 + (iz (↑(d ^ (j + 1)) : Int)).length ≤ [D.bool (decide ((↑P : Int) < (0 : Int))), du (dig (↑P : Int).natAbs)].length ∧ K (St.mk [(0, V.d (rp (rtrim ps))), (3, V.ptr 0 0), (4, V.ptr 1 0), (5, V.ptr 2 0), (6, V.ptr 3 0), (7, V.ptr 4 0), (8, V.ptr 5 0), (9, V.d (D.int IntKind.i64 (↑i0 : Int)))] [(0, some (Blk.mk [D.bool (decide (x < (0 : Int))), du (dig x.natAbs), du (dig d)] true)), (1, some (Blk.mk [D.bool false, D.lst 0 []] true)), (2, some (Blk.mk [D.bool false, D.lst 0 []] true)), (3, some (Blk.mk [D.bool (decide (hbt f.c N i0 x (↑d : Int) < (0 : Int))), du (dig (hbt f.c N i0 x (↑d : Int)).natAbs)] true)), (4, some (Blk.mk [D.bool (decide ((↑(d ^ (j + 1)) : Int) < (0 : Int))), du (dig (↑(d ^ (j + 1)) : Int).natAbs)] true)), (5, some (Blk.mk [D.bool (decide ((↑d : Int) < (0 : Int))), du (dig (↑d : Int).natAbs)] true))] 26)) (fun K => by kernel_rfl) ?_
        refine ⟨⟨rfl, rfl⟩, ⟨rfl, rfl⟩, m3, by simp [iz], hK2 _ ?_⟩
        refine awp_x prog_ok hP hnt [(25, .int .i64 ((N : Int) - 1 - (j + 1 : Nat)))] [] [] [0, 3, 4, 5, 6, 7, 8, 9] (by kernel_rfl) (G := fun K => IntKind.i64.wrap ((↑i0 : Int) - (1 : Int)) = (↑N : Int) - (1 : Int) - (↑(j + 1) : Int) ∧ K (St.mk [(0, V.d (rp (rtrim ps))), (3, V.ptr 0 0), (4, V.ptr 1 0), (5, V.ptr 2 0), (6, V.ptr 3 0), (7, V.ptr 4 0), (8, V.ptr 5 0), (9, V.d (D.int IntKind.i64 ((↑N : Int) - (1 : Int) - (↑(j + 1) : Int))))] [(0, some (Blk.mk [D.bool (decide (x < (0 : Int))), du (dig x.natAbs), du (dig d)] true)), (1, some (Blk.mk [D.bool false, D.lst 0 []] true)), (2, some (Blk.mk [D.bool false, D.lst 0 []] true)), (3, some (Blk.mk [D.bool (decide (hbt f.c N i0 x (↑d : Int) < (0 : Int))), du (dig (hbt f.c N i0 x (↑d : Int)).natAbs)] true)), (4, some (Blk.mk [D.bool (decide ((↑(d ^ (j + 1)) : Int) < (0 : Int))), du (dig (↑(d ^ (j + 1)) : Int).natAbs)] true)), (5, some (Blk.mk [D.bool (decide ((↑d : Int) < (0 : Int))), du (dig (↑d : Int).natAbs)] true))] 29)) (fun K => by kernel_rfl) ?_
        refine ⟨by rw [w64] <;> omega, j + 1, [(0, 0), (1, 1), (2, 2), (3, 3), (4, 4), (5, 5)], ⟨by omega, by omega⟩, ?_⟩
        rw [show N - (j + 1) = i0 by omega, show min (j + 1) (N - 1) = j + 1 by omega]
        (constructor <;> simp [hl, envOk, memOk, conv, St.get, St.blk, iz, rt, setCells])
      · simp at e3
        refine awp_x prog_ok hP hnt [(25, .int .i64 ((N : Int) - 1 - (j + 1 : Nat)))] [] [] [0, 3, 4, 5, 6, 7, 8, 9] (by kernel_rfl) (G := fun K => IntKind.i64.wrap ((↑i0 : Int) - (1 : Int)) = (↑N : Int) - (1 : Int) - (↑(j + 1) : Int) ∧ K (St.mk [(0, V.d (rp (rtrim ps))), (3, V.ptr 0 0), (4, V.ptr 1 0), (5, V.ptr 2 0), (6, V.ptr 3 0), (7, V.ptr 4 0), (8, V.ptr 5 0), (9, V.d (D.int IntKind.i64 ((↑N : Int) - (1 : Int) - (↑(j + 1) : Int))))] [(0, some (Blk.mk [D.bool (decide (x < (0 : Int))), du (dig x.natAbs), du (dig d)] true)), (1, some (Blk.mk [D.bool false, D.lst 0 []] true)), (2, some (Blk.mk [D.bool false, D.lst 0 []] true)), (3, some (Blk.mk [D.bool (decide (hbt f.c N i0 x (↑d : Int) < (0 : Int))), du (dig (hbt f.c N i0 x (↑d : Int)).natAbs)] true)), (4, some (Blk.mk [D.bool (decide ((↑P : Int) < (0 : Int))), du (dig (↑P : Int).natAbs)] true)), (5, some (Blk.mk [D.bool (decide ((↑d : Int) < (0 : Int))), du (dig (↑d : Int).natAbs)] true))] 25)) (fun K => by kernel_rfl) ?_
        refine ⟨by rw [w64] <;> omega, j + 1, [(0, 0), (1, 1), (2, 2), (3, 3), (4, 4), (5, 5)], ⟨by omega, by omega⟩, ?_⟩
        rw [show N - (j + 1) = i0 by omega, show min (j + 1) (N - 1) = j by omega, ← hP0]
        (constructor <;> simp [hl, envOk, memOk, conv, St.get, St.blk, iz, rt, setCells])
    · simp at e
      have : j = N := by omega
      subst this
      rw [Nat.sub_self, hbt_zero, show min j (j - 1) = j - 1 by omega]
      (constructor <;> simp [hl, envOk, memOk, conv, St.get, St.blk, iz])
  intro _ _
  refine awp_sx prog_ok hP hnt [] [] [some (iz ((d ^ (N - 1) : Nat) : Int)), some (iz (hb f.c N x d))] [4, 5] (by kernel_rfl) (G := fun K => ((iz (↑(d ^ (N - 1)) : Int))[0]? = some (D.bool (decide ((↑(d ^ (N - 1)) : Int) < (0 : Int)))) ∧ (iz (↑(d ^ (N - 1)) : Int))[1]? = some (du (dig (↑(d ^ (N - 1)) : Int).natAbs))) ∧ ((iz (hb f.c N x (↑d : Int)))[0]? = some (D.bool (decide (hb f.c N x (↑d : Int) < (0 : Int)))) ∧ (iz (hb f.c N x (↑d : Int)))[1]? = some (du (dig (hb f.c N x (↑d : Int)).natAbs))) ∧ 0 + (iz (↑(d ^ (N - 1)) : Int)).length ≤ [D.bool false, D.lst 0 []].length ∧ 0 + (iz (hb f.c N x (↑d : Int))).length ≤ [D.bool false, D.lst 0 []].length ∧ K (St.mk [(4, V.ptr 0 0), (5, V.ptr 1 0)] [(0, some (Blk.mk [D.bool (decide ((↑(d ^ (N - 1)) : Int) < (0 : Int))), du (dig (↑(d ^ (N - 1)) : Int).natAbs)] true)), (1, some (Blk.mk [D.bool (decide (hb f.c N x (↑d : Int) < (0 : Int))), du (dig (hb f.c N x (↑d : Int)).natAbs)] true)), (2, some (Blk.mk [D.bool (decide (hb f.c N x (↑d : Int) < (0 : Int))), du (dig (hb f.c N x (↑d : Int)).natAbs)] true)), (3, some (Blk.mk [D.bool (decide ((↑(d ^ (N - 1)) : Int) < (0 : Int))), du (dig (↑(d ^ (N - 1)) : Int).natAbs)] true))] 8)) (fun K => by kernel_rfl) ?_
  exact ⟨⟨rfl, rfl⟩, ⟨rfl, rfl⟩, by simp [iz], by simp [iz], awp_ret ⟨.inl rfl, retCC rfl rfl rfl rfl rfl rfl rfl⟩⟩
end Go.Abs

set_option linter.unusedVariables false
set_option linter.unusedSimpArgs false
namespace Go.Abs
open Go Go.Proofs Poly
set_option maxRecDepth 100000

theorem signAtR {KR n K L : Nat} {i : Nat} {ps : List RI} {r : List D} {q : Rat} (hi : i ≤ 12) (hp : W i ps) (hf : Bd n K (pol ps)) (hr : RR KR r q) (hKR : KR ≤ 2 ^ 38) (hq : Qb L q) (hB : K + n * (L + 1) + 1 ≤ 2 ^ 36) :
    Fn Try.prog 95 [.d (rp ps), .agg r] [] (.d (.int .i64 (evQ (pol ps) q).num.sign)) [] := by
  have hs := scaledR hi hp hf hr hKR hq hB
  obtain ⟨s, l, m, rfl, _⟩ := hr
  have hh : (hb (pol ps).c (pol ps).sz q.num q.den).natAbs < 2 ^ (K + n * (L + 1) + 1) := Nat.lt_of_lt_of_le (hb_b (K := K) hq.1 (by rw [Int.natAbs_natCast]; exact hq.2) _ hf.ok) (pw (by have := Nat.mul_le_mul_right (L + 1) hf.len; omega))
  have hsg := hb_sign (pol ps) q
  obtain ⟨v, hv⟩ : ∃ v, v = hb (pol ps).c (pol ps).sz q.num q.den := ⟨_, rfl⟩
  obtain ⟨p, hpe⟩ : ∃ p, p = q.den ^ ((pol ps).sz - 1) := ⟨_, rfl⟩
  rw [← hv] at hs hh hsg
  rw [← hpe] at hs
  have h1 := sign_fn (decide (v < 0)) (dig v.natAbs) (Nat.le_trans (digb hh (by omega)) (by omega)) (dig_lt _)
  rw [ival_iz, ← iz_ic, hsg] at h1
  refine fn0 (nt := 15) (res := [.tmp 4]) Try.func95 rfl (by decide) rfl rfl rfl rfl ?_
  intro Cx hP hnt hl
  refine awp_sx prog_ok hP hnt [] [] [] [0, 3] (by kernel_rfl) (G := fun K => K (St.mk [(0, V.d (rp ps)), (3, V.ptr 0 0)] [(0, some (Blk.mk [D.bool s, du l, du m] true))] 2)) (fun K => by kernel_rfl) ?_
  refine awp_sx prog_ok hP hnt [] [.val (.tup [.agg (iz (p : Nat)), .agg (iz v)])] [some (rr s l m)] [6] (by kernel_rfl) (G := fun K => ([D.bool s, du l, du m][0]? = some (D.bool s) ∧ [D.bool s, du l, du m][1]? = some (du l) ∧ [D.bool s, du l, du m][2]? = some (du m)) ∧ Fn Try.prog 178 [V.d (rp ps), V.agg [D.bool s, du l, du m]] [] (V.tup [V.agg [D.bool (decide ((↑p : Int) < (0 : Int))), du (dig (↑p : Int).natAbs)], V.agg [D.bool (decide (v < (0 : Int))), du (dig v.natAbs)]]) [] ∧ 0 + (iz (↑p : Int)).length ≤ (TI.mk (Kind.struct [(0, 1), (1, 1)]) 2 32 [D.bool false, D.lst 0 []]).zero.length ∧ 0 + (iz v).length ≤ (TI.mk (Kind.struct [(0, 1), (1, 1)]) 2 32 [D.bool false, D.lst 0 []]).zero.length ∧ K (St.mk [(6, V.ptr 9 0)] [(0, some (Blk.mk [D.bool s, du l, du m] true)), (8, some (Blk.mk [D.bool (decide ((↑p : Int) < (0 : Int))), du (dig (↑p : Int).natAbs)] true)), (9, some (Blk.mk [D.bool (decide (v < (0 : Int))), du (dig v.natAbs)] true))] 12)) (fun K => by kernel_rfl) ?_
  refine ⟨⟨rfl, rfl, rfl⟩, hs, by simp [iz], by simp [iz], ?_⟩
  refine awp_sx prog_ok hP hnt [] [.val (.d (.int .i64 (evQ (pol ps) q).num.sign))] [some (iz v)] [4] (by kernel_rfl) (G := fun K => ([D.bool (decide (v < (0 : Int))), du (dig v.natAbs)][0]? = some (D.bool (decide (v < (0 : Int)))) ∧ [D.bool (decide (v < (0 : Int))), du (dig v.natAbs)][1]? = some (du (dig v.natAbs))) ∧ Fn Try.prog 102 [V.agg [D.bool (decide (v < (0 : Int))), du (dig v.natAbs)]] [] (V.d (D.int IntKind.i64 (evQ (pol ps) q).num.sign)) [] ∧ K (St.mk [(4, V.d (D.int IntKind.i64 (evQ (pol ps) q).num.sign))] [(0, some (Blk.mk [D.bool s, du l, du m] true)), (8, some (Blk.mk [D.bool (decide ((↑p : Int) < (0 : Int))), du (dig (↑p : Int).natAbs)] true)), (9, some (Blk.mk [D.bool (decide (v < (0 : Int))), du (dig v.natAbs)] true))] 15)) (fun K => by kernel_rfl) ?_
  exact ⟨⟨rfl, rfl⟩, h1, awp_ret ⟨.inl rfl, retD rfl⟩⟩

theorem signEndP {i : Nat} {ps : List RI} (hi : i ≤ 12) (hp : W i ps) (minus : Bool) : Fn Try.prog 98 [.d (rp ps), .d (.bool minus)] [] (.d (.int .i64 ((pol ps).lc.sign * (if minus then -1 else 1) ^ ((pol ps).sz - 1)))) [] := by
  have hld := leadP hi hp
  have hdg := degP hi hp
  have hlv := hp.lv
  have hlb := lvbits hi
  have hlen := hlv.len
  have h2 := lim2 hi
  obtain ⟨f, hf⟩ : ∃ f, f = pol ps := ⟨_, rfl⟩
  rw [← hf] at hld hdg hlv hlen ⊢
  have hb := hlv.bits (f.sz - 1)
  have hsg := sign_fn (riz f.lc).1 (riz f.lc).2 (by have := (riz_bits hb (by omega)).2; show (riz f.lc).2.length ≤ _; unfold lc; omega) (dig_lt _)
  rw [show ival (riz f.lc).1 (riz f.lc).2 = f.lc from rval_riz _, ic_riz] at hsg
  have hpar : ∀ n : Nat, ((-1 : Int)) ^ n = if n % 2 = 1 then -1 else 1 := fun n => by
    induction n with
    | zero => rfl
    | succ n ih => rw [Int.pow_succ, ih]; split <;> split <;> omega
  refine fn0 (nt := 19) (res := [.tmp 4]) Try.func98 rfl (by decide) rfl rfl rfl rfl ?_
  intro Cx hP hnt hl
  refine awp_sx prog_ok hP hnt [] [] [] [0, 1] (by kernel_rfl) (G := fun K => K (St.mk [(0, V.d (rp ps)), (1, V.d (D.bool minus))] [] 1)) (fun K => by kernel_rfl) ?_
  refine awp_sx prog_ok hP hnt [] [.val (.agg (iz f.lc)), .val (.d (.int .i64 f.lc.sign))] [] [0, 1, 5] (by kernel_rfl) (G := fun K => Fn Try.prog 62 [V.d (rp ps)] [] (V.agg [D.bool (decide (f.lc < (0 : Int))), du (dig f.lc.natAbs)]) [] ∧ Fn Try.prog 102 [V.agg [D.bool (decide (f.lc < (0 : Int))), du (dig f.lc.natAbs)]] [] (V.d (D.int IntKind.i64 f.lc.sign)) [] ∧ K (St.mk [(0, V.d (rp ps)), (1, V.d (D.bool minus)), (5, V.d (D.int IntKind.i64 f.lc.sign))] [] 5)) (fun K => by kernel_rfl) ?_
  refine ⟨hld, hsg, ?_⟩
  refine awp_seq_k fun K hK => ?_
  cases minus with
  | false =>
    refine awp_sx prog_ok hP hnt [(15, .bool false)] [] [] [5, 15] (by kernel_rfl) (G := fun K => false = false ∧ K (St.mk [(5, V.d (D.int IntKind.i64 f.lc.sign)), (15, V.d (D.bool false))] [] 12)) (fun K => by kernel_rfl) ?_
    refine ⟨rfl, awp_cond (b := false) rfl nofun fun _ => awp_skip (hK _ ?_)⟩
    refine awp_sx prog_ok hP hnt [] [] [] [4] (by kernel_rfl) (G := fun K => K (St.mk [(4, V.d (D.int IntKind.i64 f.lc.sign))] [] 14)) (fun K => by kernel_rfl) ?_
    refine awp_ret ⟨.inl rfl, retD ?_⟩
    rw [if_neg (by decide), Int.one_pow, Int.mul_one]; rfl
  | true =>
    rw [if_pos rfl, hpar]
    have hsz0 : f.sz = 0 ∨ 1 ≤ f.sz := by omega
    have hrem : (((f.sz : Int) - 1).tmod 2 == 1) = decide ((f.sz - 1) % 2 = 1) := by
      rcases hsz0 with h | h
      · rw [h]; rfl
      · rw [show (f.sz : Int) - 1 = ((f.sz - 1 : Nat) : Int) by omega, show (((f.sz - 1 : Nat) : Int)).tmod 2 = (((f.sz - 1) % 2 : Nat) : Int) from rfl, Bool.eq_iff_iff]
        simp; omega
    have hneg : IntKind.i64.wrap (0 - f.lc.sign) = f.lc.sign * -1 := by
      rcases Int.lt_trichotomy f.lc 0 with h | h | h
      · rw [Int.sign_eq_neg_one_of_neg h]; decide
      · rw [h]; decide
      · rw [Int.sign_eq_one_of_pos h]; decide
    by_cases h1 : (f.sz - 1) % 2 = 1
    · rw [if_pos h1]
      rw [decide_eq_true h1] at hrem
      refine awp_sx prog_ok hP hnt [(14, .bool true), (15, .bool true)] [.val (.d (.int .i64 ((f.sz : Int) - 1)))] [] [5, 15] (by kernel_rfl) (G := fun K => Fn Try.prog 68 [V.d (rp ps)] [] (V.d (D.int IntKind.i64 ((↑f.sz : Int) - (1 : Int)))) [] ∧ (2 : Int) ≠ (0 : Int) ∧ (((↑f.sz : Int) - (1 : Int)).tmod (2 : Int) == (1 : Int)) = true ∧ true = true ∧ K (St.mk [(5, V.d (D.int IntKind.i64 f.lc.sign)), (15, V.d (D.bool true))] [] 12)) (fun K => by kernel_rfl) ?_
      refine ⟨hdg, by decide, hrem, rfl, awp_cond (b := true) rfl (fun _ => ?_) nofun⟩
      refine awp_sx prog_ok hP hnt [(17, .int .i64 (f.lc.sign * -1))] [] [] [4] (by kernel_rfl) (G := fun K => IntKind.i64.wrap ((0 : Int) - f.lc.sign) = f.lc.sign * (-1 : Int) ∧ K (St.mk [(4, V.d (D.int IntKind.i64 (f.lc.sign * (-1 : Int))))] [] 15)) (fun K => by kernel_rfl) ?_
      exact ⟨hneg, awp_ret ⟨.inl rfl, retD rfl⟩⟩
    · rw [if_neg h1, Int.mul_one]
      rw [decide_eq_false h1] at hrem

      refine awp_sx prog_ok hP hnt [(14, .bool false), (15, .bool false)] [.val (.d (.int .i64 ((f.sz : Int) - 1)))] [] [5, 15] (by kernel_rfl) (G := fun K => Fn Try.prog 68 [V.d (rp ps)] [] (V.d (D.int IntKind.i64 ((↑f.sz : Int) - (1 : Int)))) [] ∧ (2 : Int) ≠ (0 : Int) ∧ (((↑f.sz : Int) - (1 : Int)).tmod (2 : Int) == (1 : Int)) = false ∧ false = false ∧ K (St.mk [(5, V.d (D.int IntKind.i64 f.lc.sign)), (15, V.d (D.bool false))] [] 12)) (fun K => by kernel_rfl) ?_
      refine ⟨hdg, by decide, hrem, rfl, awp_cond (b := false) rfl nofun fun _ => awp_skip (hK _ ?_)⟩
      refine awp_sx prog_ok hP hnt [] [] [] [4] (by kernel_rfl) (G := fun K => K (St.mk [(4, V.d (D.int IntKind.i64 f.lc.sign))] [] 14)) (fun K => by kernel_rfl) ?_
      refine awp_ret ⟨.inl rfl, retD ?_⟩
      rw [if_pos rfl, hpar, if_neg h1, Int.mul_one]; rfl

end Go.Abs

set_option linter.unusedVariables false
set_option linter.unusedSimpArgs false
namespace Go.Abs
open Go Go.Proofs Poly
set_option maxRecDepth 100000

theorem mxa_ge (F : Nat → Int) : ∀ {n k : Nat}, k < n → (F k).natAbs ≤ mxa F n
  | 0, k, h => by omega
  | n + 1, k, h => by
    rw [mxa]
    by_cases e : k = n
    · subst e; omega
    · have := mxa_ge F (n := n) (k := k) (by omega); omega
theorem hgt_ge (f : Poly) (k : Nat) : (f.c k).natAbs ≤ hgt f := by
  rcases Nat.lt_or_ge k f.sz with h | h
  · exact mxa_ge f.c h
  · rw [above h]; simp

theorem ends_fn (a : List RI) (minus : Bool) (more : Int) (da : ∀ p ∈ a, Dg p.2) (hm : 0 ≤ more ∧ more ≤ 65535) : Fn Try.prog 12 [.d (rp a), .d (.bool minus), .d (.int .u16 more)] [] (.d (.bool true)) [] := by
  refine fn0 (nt := 34) (res := [.tmp 6]) Try.func12 rfl (by decide) rfl rfl rfl rfl ?_
  intro Cx hP hnt hl
  have fa := few_fn 10 3 a (by omega) (by omega)
  refine awp_sx prog_ok hP hnt [] [] [] [0, 1, 2] (by kernel_rfl) (G := fun K => K (St.mk [(0, V.d (rp a)), (1, V.d (D.bool minus)), (2, V.d (D.int IntKind.u16 more))] [] 1)) (fun K => by kernel_rfl) ?_
  refine awp_seq_k fun K hK => ?_
  cases ea : few 10 3 a with
  | false =>
    rw [ea] at fa
    refine awp_sx prog_ok hP hnt [(14, .bool true)] [.val (.d (.bool true)), .val (.d (.bool false))] [] [0, 1, 2, 14] (by kernel_rfl) (G := fun K => Fn Try.prog 38 [] [] (V.d (D.bool true)) [] ∧ Fn Try.prog 39 [V.d (D.int IntKind.i64 (10 : Int)), V.d (D.int IntKind.i64 (3 : Int)), V.d (rp a)] [] (V.d (D.bool false)) [] ∧ (!false) = true ∧ K (St.mk [(0, V.d (rp a)), (1, V.d (D.bool minus)), (2, V.d (D.int IntKind.u16 more)), (14, V.d (D.bool true))] [] 8)) (fun K => by kernel_rfl) ?_
    refine ⟨awake_fn, fa, rfl, awp_cond (b := true) rfl (fun _ => ?_) nofun⟩
    refine awp_sx prog_ok hP hnt [] [.val (.d (.bool true))] [] [6] (by kernel_rfl) (G := fun K => Fn Try.prog 38 [] [] (V.d (D.bool true)) [] ∧ K (St.mk [(6, V.d (D.bool true))] [] 10)) (fun K => by kernel_rfl) ?_
    exact ⟨awake_fn, awp_ret ⟨.inl rfl, retD rfl⟩⟩
  | true =>
    rw [ea] at fa
    refine awp_sx prog_ok hP hnt [(14, .bool false)] [.val (.d (.bool true)), .val (.d (.bool true))] [] [0, 1, 2, 14] (by kernel_rfl) (G := fun K => Fn Try.prog 38 [] [] (V.d (D.bool true)) [] ∧ Fn Try.prog 39 [V.d (D.int IntKind.i64 (10 : Int)), V.d (D.int IntKind.i64 (3 : Int)), V.d (rp a)] [] (V.d (D.bool true)) [] ∧ (!true) = false ∧ K (St.mk [(0, V.d (rp a)), (1, V.d (D.bool minus)), (2, V.d (D.int IntKind.u16 more)), (14, V.d (D.bool false))] [] 8)) (fun K => by kernel_rfl) ?_
    refine ⟨awake_fn, fa, rfl, awp_cond (b := false) rfl nofun fun _ => awp_skip (hK _ ?_)⟩
    have wa := few_w da ea (by omega) (by omega)
    have ba := few_bd da ea
    have hh := heightP (v := 0) (by omega) wa
    have hse := signEndP (i := 0) (by omega) wa minus
    obtain ⟨f, hf⟩ : ∃ f, f = pol a := ⟨_, rfl⟩
    rw [← hf] at ba hh hse
    obtain ⟨H, hH⟩ : ∃ H, H = hgt f := ⟨_, rfl⟩
    have hHb : H < 2 ^ 96 := hH ▸ mxa_lt (Nat.pow_pos (by omega)) ba.ok _
    have hHg : ∀ k, (f.c k).natAbs ≤ H := hH ▸ hgt_ge f
    rw [← hH] at hh
    have ho := iOf_fn (2 + more) (by omega) (by omega)
    have had := addI (x := (H : Int)) (y := 2 + more) (K := 96) (L := 20) (by rw [Int.natAbs_natCast]; exact hHb) (by omega) (by omega) (by omega)
    obtain ⟨x0, hx0⟩ : ∃ x0, x0 = (H : Int) + (2 + more) := ⟨_, rfl⟩
    rw [← hx0] at had
    have hx0b : x0.natAbs < 2 ^ 97 := by rw [hx0]; omega
    have hng := ineg_fn (riz x0).1 (riz x0).2 (by have := (riz_bits hx0b (by omega)).2; omega) (dig_lt _)
    rw [show ival (riz x0).1 (riz x0).2 = x0 from rval_riz _] at hng
    refine awp_sx prog_ok hP hnt [(20, .int .i64 (2 + more))] [.val (.agg (iz (H : Nat))), .val (.agg (iz (2 + more))), .val (.agg (iz x0))] [] [0, 1, 7] (by kernel_rfl) (G := fun K => Fn Try.prog 61 [V.d (rp a)] [] (V.agg [D.bool (decide ((↑H : Int) < (0 : Int))), du (dig (↑H : Int).natAbs)]) [] ∧ IntKind.i64.wrap ((2 : Int) + IntKind.i64.wrap more) = (2 : Int) + more ∧ Fn Try.prog 74 [V.d (D.int IntKind.i64 ((2 : Int) + more))] [] (V.agg [D.bool (decide ((2 : Int) + more < (0 : Int))), du (dig ((2 : Int) + more).natAbs)]) [] ∧ Fn Try.prog 96 [V.agg [D.bool (decide ((↑H : Int) < (0 : Int))), du (dig (↑H : Int).natAbs)], V.agg [D.bool (decide ((2 : Int) + more < (0 : Int))), du (dig ((2 : Int) + more).natAbs)]] [] (V.agg [D.bool (decide (x0 < (0 : Int))), du (dig x0.natAbs)]) [] ∧ 0 + (iz x0).length ≤ (TI.mk (Kind.struct [(0, 1), (1, 1)]) 2 32 [D.bool false, D.lst 0 []]).zero.length ∧ K (St.mk [(0, V.d (rp a)), (1, V.d (D.bool minus)), (7, V.ptr 15 0)] [(15, some (Blk.mk [D.bool (decide (x0 < (0 : Int))), du (dig x0.natAbs)] true))] 17)) (fun K => by kernel_rfl) ?_
    refine ⟨hh, ?_, ho, had, by simp [iz], ?_⟩
    · rw [show IntKind.i64.wrap more = more from by rw [w64] <;> omega, w64] <;> omega
    have hfin : ∀ x : Int, x = (if minus then -x0 else x0) → Fn Try.prog 99 [.agg (iz x)] [] (.agg (rq (x : Rat))) [] ∧ Fn Try.prog 95 [.d (rp a), .agg (rq (x : Rat))] [] (.d (.int .i64 (f.lc.sign * (if minus then -1 else 1) ^ (f.sz - 1)))) [] := fun x hx => by
      have hxa : x.natAbs = x0.natAbs := by rw [hx]; split <;> omega
      have hxb : x.natAbs < 2 ^ 97 := by omega
      have h1 := fromR (riz x).1 (riz x).2 (by have := (riz_bits hxb (by omega)).2; omega) (dig_lt _)
      rw [show ival (riz x).1 (riz x).2 = x from rval_riz _] at h1
      have hqb : Qb 97 (x : Rat) := ⟨hxb, by show 1 < 2 ^ 97; decide⟩
      have h2 := signAtR (i := 0) (n := 10) (K := 96) (L := 97) (q := (x : Rat)) (by omega) wa (hf ▸ ba) (RR.of_q hqb (by omega)) (by omega) hqb (by omega)
      rw [← hf, evQ_int, show (((f.ev x : Int) : Rat)).num = f.ev x from rfl, ev_sign hHg (by rw [hxa, hx0]; omega)] at h2
      have hsx : x.sign = if minus then -1 else 1 := by
        rw [hx]
        cases minus with
        | false => rw [if_neg (by decide), if_neg (by decide)]; exact Int.sign_eq_one_of_pos (by omega)
        | true => rw [if_pos rfl, if_pos rfl]; exact Int.sign_eq_neg_one_of_neg (by omega)
      rw [hsx] at h2
      exact ⟨h1, h2⟩
    obtain ⟨S, hS⟩ : ∃ S, S = f.lc.sign * (if minus then -1 else 1) ^ (f.sz - 1) := ⟨_, rfl⟩
    rw [← hS] at hse hfin
    refine awp_seq_k fun K2 hK2 => ?_
    refine awp_sx prog_ok hP hnt [] [] [] [0, 1, 7, 23] (by kernel_rfl) (G := fun K => K (St.mk [(0, V.d (rp a)), (1, V.d (D.bool minus)), (7, V.ptr 15 0), (23, V.d (D.bool minus))] [(15, some (Blk.mk [D.bool (decide (x0 < (0 : Int))), du (dig x0.natAbs)] true))] 18)) (fun K => by kernel_rfl) ?_
    cases minus with
    | false =>
      obtain ⟨k1, k2⟩ := hfin x0 (by rw [if_neg (by decide)])
      refine awp_cond (b := false) rfl nofun fun _ => awp_skip (hK2 _ ?_)
      refine awp_sx prog_ok hP hnt [(33, .bool true)] [.val (.d (.int .i64 S)), .val (.agg (rq (x0 : Rat))), .val (.d (.int .i64 S))] [some (iz x0)] [6] (by kernel_rfl) (G := fun K => Fn Try.prog 98 [V.d (rp a), V.d (D.bool false)] [] (V.d (D.int IntKind.i64 S)) [] ∧ ([D.bool (decide (x0 < (0 : Int))), du (dig x0.natAbs)][0]? = some (D.bool (decide (x0 < (0 : Int)))) ∧ [D.bool (decide (x0 < (0 : Int))), du (dig x0.natAbs)][1]? = some (du (dig x0.natAbs))) ∧ Fn Try.prog 99 [V.agg [D.bool (decide (x0 < (0 : Int))), du (dig x0.natAbs)]] [] (V.agg [D.bool (decide ((↑x0 : Rat).num < (0 : Int))), du (dig (↑x0 : Rat).num.natAbs), du (dig (↑x0 : Rat).den)]) [] ∧ Fn Try.prog 95 [V.d (rp a), V.agg [D.bool (decide ((↑x0 : Rat).num < (0 : Int))), du (dig (↑x0 : Rat).num.natAbs), du (dig (↑x0 : Rat).den)]] [] (V.d (D.int IntKind.i64 S)) [] ∧ (S == S) = true ∧ K (St.mk [(6, V.d (D.bool true))] [(15, some (Blk.mk [D.bool (decide (x0 < (0 : Int))), du (dig x0.natAbs)] true))] 27)) (fun K => by kernel_rfl) ?_
      exact ⟨hse, ⟨rfl, rfl⟩, k1, k2, by simp, awp_ret ⟨.inl rfl, retD rfl⟩⟩
    | true =>
      obtain ⟨k1, k2⟩ := hfin (-x0) (by rw [if_pos rfl])
      refine awp_cond (b := true) rfl (fun _ => ?_) nofun
      refine awp_x prog_ok hP hnt [] [.val (.agg (iz (-x0)))] [some (iz x0)] [0, 1, 7] (by kernel_rfl) (G := fun K => ([D.bool (decide (x0 < (0 : Int))), du (dig x0.natAbs)][0]? = some (D.bool (decide (x0 < (0 : Int)))) ∧ [D.bool (decide (x0 < (0 : Int))), du (dig x0.natAbs)][1]? = some (du (dig x0.natAbs))) ∧ Fn Try.prog 97 [V.agg [D.bool (decide (x0 < (0 : Int))), du (dig x0.natAbs)]] [] (V.agg [D.bool (decide (-x0 < (0 : Int))), du (dig (-x0).natAbs)]) [] ∧ 0 + (iz (-x0)).length ≤ [D.bool (decide (x0 < (0 : Int))), du (dig x0.natAbs)].length ∧ K (St.mk [(0, V.d (rp a)), (1, V.d (D.bool true)), (7, V.ptr 15 0)] [(15, some (Blk.mk [D.bool (decide (-x0 < (0 : Int))), du (dig (-x0).natAbs)] true))] 21)) (fun K => by kernel_rfl) ?_
      refine ⟨⟨rfl, rfl⟩, hng, by simp [iz], hK2 _ ?_⟩
      refine awp_sx prog_ok hP hnt [(33, .bool true)] [.val (.d (.int .i64 S)), .val (.agg (rq ((-x0 : Int) : Rat))), .val (.d (.int .i64 S))] [some (iz (-x0))] [6] (by kernel_rfl) (G := fun K => Fn Try.prog 98 [V.d (rp a), V.d (D.bool true)] [] (V.d (D.int IntKind.i64 S)) [] ∧ ([D.bool (decide (-x0 < (0 : Int))), du (dig (-x0).natAbs)][0]? = some (D.bool (decide (-x0 < (0 : Int)))) ∧ [D.bool (decide (-x0 < (0 : Int))), du (dig (-x0).natAbs)][1]? = some (du (dig (-x0).natAbs))) ∧ Fn Try.prog 99 [V.agg [D.bool (decide (-x0 < (0 : Int))), du (dig (-x0).natAbs)]] [] (V.agg [D.bool (decide ((↑(-x0) : Rat).num < (0 : Int))), du (dig (↑(-x0) : Rat).num.natAbs), du (dig (↑(-x0) : Rat).den)]) [] ∧ Fn Try.prog 95 [V.d (rp a), V.agg [D.bool (decide ((↑(-x0) : Rat).num < (0 : Int))), du (dig (↑(-x0) : Rat).num.natAbs), du (dig (↑(-x0) : Rat).den)]] [] (V.d (D.int IntKind.i64 S)) [] ∧ (S == S) = true ∧ K (St.mk [(6, V.d (D.bool true))] [(15, some (Blk.mk [D.bool (decide (-x0 < (0 : Int))), du (dig (-x0).natAbs)] true))] 30)) (fun K => by kernel_rfl) ?_
      exact ⟨hse, ⟨rfl, rfl⟩, k1, k2, by simp, awp_ret ⟨.inl rfl, retD rfl⟩⟩
end Go.Abs
