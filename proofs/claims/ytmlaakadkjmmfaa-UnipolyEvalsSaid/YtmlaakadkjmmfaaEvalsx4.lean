import Derived.WalkKit
import Derived.Orders
import Derived.Below
import Derived.Laws.AppendOwn
import Derived.Calls
import Derived.OpenShut
import Derived.ChangeArms
import Derived.ChangeShapes
import Derived.WideShapes
import Derived.KernelRfl
import Derived.JoinedOf
import Derived.Scope
import Derived.ProofKit
import Derived.ShutString
import Derived.ChangeOld
import Derived.SizedLaws
import Derived.Test.YtmlaakadkjmmfaaProg
import Derived.Test.YtmlaakadkjmmfaaEvalsx0
import Derived.Test.YtmlaakadkjmmfaaEvalsx1
import Derived.Test.YtmlaakadkjmmfaaEvalsx2
import Derived.Test.YtmlaakadkjmmfaaEvalsx3
/- Texts that the proof of UnipolyEvals leans on: what is told of the functions it reaches. -/
set_option linter.unusedVariables false
set_option linter.unusedSimpArgs false
namespace Go.Abs
open Go Go.Proofs
set_option maxRecDepth 100000

theorem take_dig : ∀ {q : List Nat}, Dg q → q.take (dig (val q)).length = dig (val q)
  | [], _ => by simp [val, dig_zero]
  | d :: q, h => by
    have ih := take_dig (q := q) (fun x hx => h x (List.mem_cons_of_mem _ hx))
    have hd := h d (List.mem_cons_self ..)
    by_cases h0 : d + 4294967296 * val q = 0
    · show List.take (dig (d + 4294967296 * val q)).length _ = dig (d + 4294967296 * val q)
      rw [h0, dig_zero]; rfl
    · show List.take (dig (d + 4294967296 * val q)).length _ = dig (d + 4294967296 * val q)
      rw [dig_cons hd h0, List.length_cons, List.take_succ_cons, ih]

theorem trimO' {l : List Nat} {v : Nat} (h : l.length ≤ 2 ^ 40) (hd : Dg l) (hv : val l = v) (b : Nat) : Fn Try.prog 212 [.own b 0 l.length 1] [(b, ⟨u32s l, true⟩)] (.own b 0 (dig v).length 1) [(b, ⟨u32s (dig v), true⟩)] := by
  subst hv
  have h5 := (trimO_fn l h hd b).out_take (dig (val l)).length
  rwa [u32s_take, take_dig hd] at h5

theorem shl_u32 {x r : Nat} (h : r ≤ 32) : IntKind.u32.wrap ((x : Int) * 2 ^ min (Int.toNat (r : Nat)) IntKind.u32.bits) = ((x % 2 ^ (32 - r)) * 2 ^ r : Nat) := by
  rw [show min (Int.toNat (r : Nat)) IntKind.u32.bits = r from by show min r 32 = r; omega, IntKind.wrap_u32]
  have h1 : (x * 2 ^ r) % 4294967296 = (x % 2 ^ (32 - r)) * 2 ^ r := by
    rw [show 4294967296 = 2 ^ (32 - r) * 2 ^ r from by rw [← Nat.pow_add, show 32 - r + r = 32 by omega], Nat.mul_mod_mul_right]
  rw [← h1]
  simp
theorem shr_u32 {x r : Nat} (h : r ≤ 32) : ((x : Int).fdiv (2 ^ min (Int.toNat (r : Nat)) IntKind.u32.bits)) = (x / 2 ^ r : Nat) := by
  rw [show min (Int.toNat (r : Nat)) IntKind.u32.bits = r from by show min r 32 = r; omega, fdivN]

theorem set_mid (A P R : List Nat) (x y : Nat) : (A ++ (P ++ x :: R)).set (A.length + P.length) y = A ++ (P ++ y :: R) := by
  rw [List.set_append_right _ _ (by omega), List.set_append_right _ _ (by omega)]
  simp
theorem get_mid (A P R : List Nat) (x : Nat) : (A ++ (P ++ x :: R))[A.length + P.length]? = some x := by
  rw [List.getElem?_append_right (by omega), List.getElem?_append_right (by omega)]
  simp
theorem dg_append {a b : List Nat} (ha : Dg a) (hb : Dg b) : Dg (a ++ b) := fun x hx => by
  rcases List.mem_append.1 hx with h | h
  · exact ha x h
  · exact hb x h
theorem dg_one {x : Nat} (h : x < 4294967296) : Dg [x] := fun y hy => by
  rw [List.mem_singleton] at hy; omega
theorem split32 (s : Nat) : 2 ^ s = 4294967296 ^ (s / 32) * 2 ^ (s % 32) := by
  rw [show (4294967296 : Nat) = 2 ^ 32 from rfl, ← Nat.pow_mul, ← Nat.pow_add, Nat.div_add_mod]

/-- one digit of a shift to the left -/
theorem shl_digit {x r low : Nat} (hx : x < 4294967296) (hr : r < 32) (hr0 : 0 < r) (hl : low < 2 ^ r) :
    (x % 2 ^ (32 - r)) * 2 ^ r ||| low = (x % 2 ^ (32 - r)) * 2 ^ r + low ∧ (x % 2 ^ (32 - r)) * 2 ^ r + low + 4294967296 * (x / 2 ^ (32 - r)) = x * 2 ^ r + low ∧
    (x % 2 ^ (32 - r)) * 2 ^ r + low < 4294967296 ∧ x / 2 ^ (32 - r) < 2 ^ r ∧ (x % 2 ^ (32 - r)) * 2 ^ r < 4294967296 := by
  have e : 4294967296 = 2 ^ (32 - r) * 2 ^ r := by rw [← Nat.pow_add, show 32 - r + r = 32 by omega]
  have p1 : 0 < 2 ^ (32 - r) := Nat.pow_pos (by omega)
  have p2 : 0 < 2 ^ r := Nat.pow_pos (by omega)
  have hm : x % 2 ^ (32 - r) < 2 ^ (32 - r) := Nat.mod_lt _ p1
  have hdm := Nat.div_add_mod x (2 ^ (32 - r))
  generalize x % 2 ^ (32 - r) = m at *
  have hq : x / 2 ^ (32 - r) < 2 ^ r := by rw [Nat.div_lt_iff_lt_mul p1, Nat.mul_comm, ← e]; exact hx
  generalize x / 2 ^ (32 - r) = q at *
  have hlt : m * 2 ^ r + 2 ^ r ≤ 4294967296 := by
    rw [e]
    have := Nat.mul_le_mul_right (2 ^ r) (show m + 1 ≤ 2 ^ (32 - r) from hm)
    rwa [Nat.add_mul, Nat.one_mul] at this
  refine ⟨or_lt hl, ?_, by omega, hq, by omega⟩
  rw [← hdm, e]
  generalize 2 ^ (32 - r) = a
  generalize 2 ^ r = b
  grind

theorem setCells_row : ∀ (P A Z : List Nat), P.length ≤ Z.length → setCells (u32s (A ++ Z)) A.length (u32s P) = u32s (A ++ (P ++ Z.drop P.length))
  | [], A, Z, _ => by simp [u32s, setCells]
  | p :: P, A, [], h => by simp at h
  | p :: P, A, z :: Z, h => by
    show setCells ((u32s (A ++ z :: Z)).set A.length (.int .u32 p)) (A.length + 1) (u32s P) = _
    rw [u32s_set, List.set_append_right _ _ (Nat.le_refl _), Nat.sub_self, List.set_cons_zero]
    have := setCells_row P (A ++ [p]) Z (by simpa using h)
    simp only [List.length_append, List.length_cons, List.length_nil, List.append_assoc, List.cons_append, List.nil_append] at this
    rw [this]; rfl

/-- shift to the left, as digits of the caller's own -/
theorem shlO_fn (l : List Nat) (s : Nat) (h : l.length ≤ 2 ^ 39) (hd : Dg l) (hs : s ≤ 16777216) (b : Nat) :
    Fn Try.prog 154 [.d (du l), .d (.int .i64 s)] [] (.own b 0 (dig (val l * 2 ^ s)).length 1) [(b, ⟨u32s (dig (val l * 2 ^ s)), true⟩)] := by
  refine Fn.out_ren ?_ b
  refine fn0o (nt := 61) (res := [.tmp 4]) Try.func154 rfl (by decide) rfl rfl rfl rfl ?_
  intro Cx hP hnt hl
  have ht := trim_fn l (by omega) hd
  have hle := dig_le hd
  obtain ⟨n, hn⟩ : ∃ n, n = val l := ⟨_, rfl⟩
  rw [← hn] at ht hle ⊢
  refine awp_sx prog_ok hP hnt [] [] [] [0, 1] (by kernel_rfl) (G := fun K => K (St.mk [(0, V.d (du l)), (1, V.d (D.int IntKind.i64 (↑s : Int)))] [] 1)) (fun K => by kernel_rfl) ?_
  refine awp_sx prog_ok hP hnt [] [.val (.d (du (dig n)))] [] [0, 1] (by kernel_rfl) (G := fun K => Fn Try.prog 212 [V.d (du l)] [] (V.d (du (dig n))) [] ∧ K (St.mk [(0, V.d (du (dig n))), (1, V.d (D.int IntKind.i64 (↑s : Int)))] [] 4)) (fun K => by kernel_rfl) ?_
  refine ⟨ht, ?_⟩
  refine awp_seq_k fun K hK => ?_
  refine awp_sx prog_ok hP hnt [] [] [] [0, 1, 15] (by kernel_rfl) (G := fun K => K (St.mk [(0, V.d (du (dig n))), (1, V.d (D.int IntKind.i64 (↑s : Int))), (15, V.d (D.bool ((↑(dig n).length : Int) == (0 : Int))))] [] 7)) (fun K => by kernel_rfl) ?_
  refine awp_cond rfl (fun e => ?_) (fun e => awp_skip (hK _ ?_))
  · simp at e
    rw [dig_nil] at e
    subst e
    rw [Nat.zero_mul, dig_zero]
    refine awp_sx prog_ok hP hnt [] [] [] [4] (by kernel_rfl) (G := fun K => K (St.mk [(4, V.nil)] [] 8)) (fun K => by kernel_rfl) ?_
    refine awp_weak [] ⟨[(4, .own 0 0 0 1)], [(0, some ⟨[], true⟩)], 1⟩ ?_ (awp_ret ⟨.inl rfl, .inl ⟨rfl, rfl, trivial⟩⟩)
    (constructor <;> simp [hl, envOk, memOk, conv, St.get, St.blk])
  simp at e
  rw [dig_nil] at e
  have hw : s / 32 ≤ 524288 := by omega
  have hr : s % 32 < 32 := by omega
  have h2s := split32 s
  have ew : (s : Int).tdiv 32 = (s / 32 : Nat) := rfl
  have er : (s : Int).tmod 32 = (s % 32 : Nat) := rfl
  obtain ⟨w, hw0⟩ : ∃ w, w = s / 32 := ⟨_, rfl⟩
  obtain ⟨r, hr0⟩ : ∃ r, r = s % 32 := ⟨_, rfl⟩
  rw [← hw0] at hw h2s ew
  rw [← hr0] at hr h2s er
  rw [h2s]
  have hlen : (dig n).length ≤ 2 ^ 39 := by omega
  have hvd := val_dig n
  have hDg := dig_lt n
  obtain ⟨L, hL⟩ : ∃ L, L = dig n := ⟨_, rfl⟩
  rw [← hL] at hlen hvd hDg ⊢
  refine awp_sx prog_ok hP hnt [(18, .int .i64 s)] [] [] [0, 1] (by kernel_rfl) (G := fun K => (if (16777216 : Int) < if (0 : Int) > (↑s : Int) then (0 : Int) else (↑s : Int) then (16777216 : Int) else if (0 : Int) > (↑s : Int) then (0 : Int) else (↑s : Int)) = (↑s : Int) ∧ K (St.mk [(0, V.d (du L)), (1, V.d (D.int IntKind.i64 (↑s : Int)))] [] 11)) (fun K => by kernel_rfl) ?_
  refine ⟨by rw [if_neg (show ¬ (0 : Int) > (s : Int) by omega), if_neg (by omega)], ?_⟩
  refine awp_sx prog_ok hP hnt [(20, .int .i64 w), (22, .int .i64 r)] [] [] [0, 5, 6] (by kernel_rfl) (G := fun K => (32 : Int) ≠ (0 : Int) ∧ IntKind.i64.wrap ((↑s : Int).tdiv (32 : Int)) = (↑w : Int) ∧ (32 : Int) ≠ (0 : Int) ∧ (↑s : Int).tmod (32 : Int) = (↑r : Int) ∧ K (St.mk [(0, V.d (du L)), (5, V.d (D.int IntKind.i64 (↑w : Int))), (6, V.d (D.int IntKind.i64 (↑r : Int)))] [] 17)) (fun K => by kernel_rfl) ?_
  refine ⟨by omega, by rw [ew, w64] <;> omega, by omega, er, ?_⟩
  refine awp_sx prog_ok hP hnt [(26, .int .i64 (w + L.length : Nat)), (27, .int .i64 (w + L.length + 1 : Nat))] [] [] [0, 5, 6, 7] (by kernel_rfl) (G := fun K => IntKind.i64.wrap ((↑w : Int) + (↑L.length : Int)) = (↑(w + L.length) : Int) ∧ IntKind.i64.wrap ((↑(w + L.length) : Int) + (1 : Int)) = (↑(w + L.length + 1) : Int) ∧ ((↑(w + L.length + 1) : Int) = (↑(w + L.length + 1) : Int) ∧ (0 : Int) ≤ (↑(w + L.length + 1) : Int) ∧ (↑(w + L.length + 1) : Int) * (↑4 : Int) ≤ (2 : Int) ^ 47) ∧ K (St.mk [(0, V.d (du L)), (5, V.d (D.int IntKind.i64 (↑w : Int))), (6, V.d (D.int IntKind.i64 (↑r : Int))), (7, V.own 22 0 (↑(w + L.length + 1) : Int).toNat 1)] [(22, some (Blk.mk (zeros (↑(w + L.length + 1) : Int).toNat (TI.mk (Kind.int IntKind.u32) 1 4 [D.int IntKind.u32 (0 : Int)]).zero) true))] 24)) (fun K => by kernel_rfl) ?_
  refine ⟨by rw [w64] <;> omega, by rw [w64] <;> omega, ⟨rfl, by omega, by omega⟩, ?_⟩
  refine awp_sx prog_ok hP hnt [] [] [] [5, 6, 7] (by kernel_rfl) (G := fun K => ((0 : Int) ≤ (↑w : Int) ∧ (↑w : Int) < (↑(↑(w + L.length + 1) : Int).toNat : Int)) ∧ (u32s L).length = L.length * 1 ∧ 0 + (↑w : Int).toNat * 1 + ((↑(w + L.length + 1) : Int).toNat - (↑w : Int).toNat) * 1 ≤ (zeros (↑(w + L.length + 1) : Int).toNat (TI.mk (Kind.int IntKind.u32) 1 4 [D.int IntKind.u32 (0 : Int)]).zero).length ∧ K (St.mk [(5, V.d (D.int IntKind.i64 (↑w : Int))), (6, V.d (D.int IntKind.i64 (↑r : Int))), (7, V.own 22 0 (↑(w + L.length + 1) : Int).toNat 1)] [(22, some (Blk.mk (setCells (zeros (↑(w + L.length + 1) : Int).toNat (TI.mk (Kind.int IntKind.u32) 1 4 [D.int IntKind.u32 (0 : Int)]).zero) (0 + (↑w : Int).toNat * 1) (List.take (min L.length ((↑(w + L.length + 1) : Int).toNat - (↑w : Int).toNat) * 1) (u32s L))) true))] 29)) (fun K => by kernel_rfl) ?_
  have hcells : setCells (zeros (w + L.length + 1) [.int .u32 0]) (0 + w * 1) (List.take (min L.length (w + L.length + 1 - w) * 1) (u32s L)) = u32s (List.replicate w 0 ++ (L ++ [0])) := by
    have h1 := setCells_row L (List.replicate w 0) (List.replicate (L.length + 1) 0) (by simp)
    rw [List.replicate_append_replicate, List.length_replicate, ← zeros_u32] at h1
    rw [show w + L.length + 1 = w + (L.length + 1) by omega, Nat.zero_add, Nat.mul_one, Nat.mul_one, List.take_of_length_le (by simp), h1]
    simp
  rw [Int.toNat_natCast, Int.toNat_natCast]
  refine ⟨⟨by omega, by omega⟩, by simp, ?_, ?_⟩
  · rw [zeros_u32]; simp; omega
  rw [hcells]
  refine awp_cut (ι := List Nat) (fun o => ⟨[(7, .own 0 0 o.length 1)], [(0, some ⟨u32s o, true⟩)], 1⟩) (fun o => o.length = w + L.length + 1 ∧ Dg o ∧ val o = n * (4294967296 ^ w * 2 ^ r)) ?_ ?_
  · have hDo : Dg (List.replicate w 0 ++ (L ++ [0])) := dg_append (dg_zeros w) (dg_append hDg (dg_one (by omega)))
    have hvL0 : val (L ++ [0]) = n := by rw [val_append, hvd]; simp [val]
    refine awp_sx prog_ok hP hnt [] [] [] [5, 6, 7, 35] (by kernel_rfl) (G := fun K => K (St.mk [(5, V.d (D.int IntKind.i64 (↑w : Int))), (6, V.d (D.int IntKind.i64 (↑r : Int))), (7, V.own 22 0 (w + L.length + 1) 1), (35, V.d (D.bool (decide ((↑r : Int) > (0 : Int)))))] [(22, some (Blk.mk (u32s (List.replicate w 0 ++ (L ++ [0]))) true))] 31)) (fun K => by kernel_rfl) ?_
    refine awp_cond rfl (fun e => ?_) (fun e => awp_skip ⟨_, [(0, 22)], ⟨?_, hDo, ?_⟩, ?_⟩)
    · simp at e
      refine awp_sx prog_ok hP hnt [] [] [] [5, 6, 7, 8] (by kernel_rfl) (G := fun K => K (St.mk [(5, V.d (D.int IntKind.i64 (↑w : Int))), (6, V.d (D.int IntKind.i64 (↑r : Int))), (7, V.own 22 0 (w + L.length + 1) 1), (8, V.d (D.int IntKind.u32 (0 : Int)))] [(22, some (Blk.mk (u32s (List.replicate w 0 ++ (L ++ [0]))) true))] 32)) (fun K => by kernel_rfl) ?_
      refine awp_sx prog_ok hP hnt [] [] [] [6, 7, 8, 9] (by kernel_rfl) (G := fun K => K (St.mk [(6, V.d (D.int IntKind.i64 (↑r : Int))), (7, V.own 22 0 (w + L.length + 1) 1), (8, V.d (D.int IntKind.u32 (0 : Int))), (9, V.d (D.int IntKind.i64 (↑w : Int)))] [(22, some (Blk.mk (u32s (List.replicate w 0 ++ (L ++ [0]))) true))] 34)) (fun K => by kernel_rfl) ?_
      refine awp_block ?_
      refine awp_loop (ι := List Nat × List Nat × Nat) (fun ⟨P, R, low⟩ => ⟨[(6, .d (.int .i64 r)), (7, .own 0 0 (w + L.length + 1) 1), (8, .d (.int .u32 low)), (9, .d (.int .i64 (w + P.length : Nat)))], [(0, some ⟨u32s (List.replicate w 0 ++ (P ++ R)), true⟩)], 1⟩)
        (fun ⟨P, R, low⟩ => P.length + R.length = L.length + 1 ∧ Dg P ∧ Dg R ∧ low < 2 ^ r ∧ val P + 4294967296 ^ P.length * (low + val R * 2 ^ r) = n * 2 ^ r) (fun ⟨P, R, low⟩ => R.length) ([], L ++ [0], 0) [(0, 22)] ?_ ?_ ?_
      · refine ⟨by simp, by simp [Dg], dg_append hDg (dg_one (by omega)), Nat.pow_pos (by omega), ?_⟩
        rw [hvL0]; simp [val]
      · (constructor <;> simp [hl, envOk, memOk, conv, St.get, St.blk])
      rintro ⟨P, R, low⟩ ⟨hl1, hP1, hR, hlow, hv⟩
      refine awp_seq_k fun K1 hK1 => ?_
      refine awp_sx prog_ok hP hnt [] [] [] [6, 7, 8, 9, 40] (by kernel_rfl) (G := fun K => K (St.mk [(6, V.d (D.int IntKind.i64 (↑r : Int))), (7, V.own 0 0 (w + L.length + 1) 1), (8, V.d (D.int IntKind.u32 (↑low : Int))), (9, V.d (D.int IntKind.i64 (↑(w + P.length) : Int))), (40, V.d (D.bool (decide ((↑(w + P.length) : Int) < (↑(w + L.length + 1) : Int)))))] [(0, some (Blk.mk (u32s (List.replicate w 0 ++ (P ++ R))) true))] 5)) (fun K => by kernel_rfl) ?_
      refine awp_cond rfl (fun e2 => awp_skip (hK1 _ ?_)) (fun e2 => awp_exit ⟨List.replicate w 0 ++ (P ++ R), [(0, 0)], ?_, ?_⟩)
      · simp at e2
        obtain ⟨x, R, rfl⟩ : ∃ x R', R = x :: R' := by
          cases R with
          | nil => simp at hl1; omega
          | cons x R' => exact ⟨x, R', rfl⟩
        have hx32 := hR x (by simp)
        simp only [List.length_cons] at hl1
        obtain ⟨d1, d2, d3, d4, d5⟩ := shl_digit hx32 hr e hlow
        obtain ⟨D, hD⟩ : ∃ D, D = (x % 2 ^ (32 - r)) * 2 ^ r := ⟨_, rfl⟩
        obtain ⟨q, hq⟩ : ∃ q, q = x / 2 ^ (32 - r) := ⟨_, rfl⟩
        have hsl := shl_u32 (x := x) (r := r) (by omega)
        have hsr := shr_u32 (x := x) (r := 32 - r) (by omega)
        rw [← hD] at d1 d2 d3 d5 hsl
        rw [← hq] at d2 d4 hsr
        have hor := or_u32 (x := D) (y := low) d5 (by have : 2 ^ r < 2 ^ 32 := Nat.pow_lt_pow_right (by omega) hr; omega)
        rw [d1] at hor
        have hget := get_mid (List.replicate w 0) P R x
        have hset := set_mid (List.replicate w 0) P R x (D + low)
        rw [List.length_replicate] at hget hset
        refine awp_seq_k fun K2 hK2 => ?_
        refine awp_block ?_
        refine awp_sx prog_ok hP hnt [] [] [some [.int .u32 x]] [6, 7, 8, 9, 10] (by kernel_rfl) (G := fun K => ((0 : Int) ≤ (↑(w + P.length) : Int) ∧ (↑(w + P.length) : Int) < (↑(w + L.length + 1) : Int)) ∧ (u32s (List.replicate w 0 ++ (P ++ x :: R)))[0 + (↑(w + P.length) : Int).toNat * 1]? = some (Abs.D.int IntKind.u32 (↑x : Int)) ∧ K (St.mk [(6, V.d (Abs.D.int IntKind.i64 (↑r : Int))), (7, V.own 0 0 (w + L.length + 1) 1), (8, V.d (Abs.D.int IntKind.u32 (↑low : Int))), (9, V.d (Abs.D.int IntKind.i64 (↑(w + P.length) : Int))), (10, V.d (Abs.D.int IntKind.u32 (↑x : Int)))] [(0, some (Blk.mk (u32s (List.replicate w 0 ++ (P ++ x :: R))) true))] 10)) (fun K => by kernel_rfl) ?_
        refine ⟨⟨by omega, by omega⟩, by rw [Int.toNat_natCast, Nat.zero_add, Nat.mul_one, u32s_get, hget]; rfl, ?_⟩
        refine awp_sx prog_ok hP hnt [(51, .int .u32 D), (53, .int .u32 (D + low : Nat))] [] [] [6, 7, 9, 10] (by kernel_rfl) (G := fun K => (0 : Int) ≤ (↑r : Int) ∧ IntKind.u32.wrap ((↑x : Int) * (2 : Int) ^ min (↑r : Int).toNat IntKind.u32.bits) = (↑D : Int) ∧ IntKind.u32.wrap (↑(BitVec.ofInt IntKind.u32.bits (↑D : Int) ||| BitVec.ofInt IntKind.u32.bits (↑low : Int)).toNat : Int) = (↑(D + low) : Int) ∧ ((0 : Int) ≤ (↑(w + P.length) : Int) ∧ (↑(w + P.length) : Int) < (↑(w + L.length + 1) : Int)) ∧ 0 + (↑(w + P.length) : Int).toNat * 1 + [Abs.D.int IntKind.u32 (↑(D + low) : Int)].length ≤ (u32s (List.replicate w 0 ++ (P ++ x :: R))).length ∧ K (St.mk [(6, V.d (Abs.D.int IntKind.i64 (↑r : Int))), (7, V.own 0 0 (w + L.length + 1) 1), (9, V.d (Abs.D.int IntKind.i64 (↑(w + P.length) : Int))), (10, V.d (Abs.D.int IntKind.u32 (↑x : Int)))] [(0, some (Blk.mk (setCells (u32s (List.replicate w 0 ++ (P ++ x :: R))) (0 + (↑(w + P.length) : Int).toNat * 1) [Abs.D.int IntKind.u32 (↑(D + low) : Int)]) true))] 19)) (fun K => by kernel_rfl) ?_
        refine ⟨by omega, hsl, hor, ⟨by omega, by omega⟩, by simp; omega, ?_⟩
        rw [Int.toNat_natCast, Nat.zero_add, Nat.mul_one, setCells_u32, hset]
        refine awp_x prog_ok hP hnt [(57, .int .i64 (32 - r : Nat)), (58, .int .u32 q)] [] [] [6, 7, 8, 9] (by kernel_rfl) (G := fun K => IntKind.i64.wrap ((32 : Int) - (↑r : Int)) = (↑(32 - r) : Int) ∧ (0 : Int) ≤ (↑(32 - r) : Int) ∧ (↑x : Int).fdiv ((2 : Int) ^ min (↑(32 - r) : Int).toNat IntKind.u32.bits) = (↑q : Int) ∧ K (St.mk [(6, V.d (Abs.D.int IntKind.i64 (↑r : Int))), (7, V.own 0 0 (w + L.length + 1) 1), (9, V.d (Abs.D.int IntKind.i64 (↑(w + P.length) : Int))), (8, V.d (Abs.D.int IntKind.u32 (↑q : Int)))] [(0, some (Blk.mk (u32s (List.replicate w 0 ++ (P ++ (D + low) :: R))) true))] 24)) (fun K => by kernel_rfl) ?_
        refine ⟨by rw [w64] <;> omega, by omega, hsr, hK2 _ ?_⟩
        refine awp_x prog_ok hP hnt [(42, .int .i64 (w + (P ++ [D + low]).length : Nat))] [] [] [6, 7, 8, 9] (by kernel_rfl) (G := fun K => IntKind.i64.wrap ((↑(w + P.length) : Int) + (1 : Int)) = (↑(w + (P ++ [D + low]).length) : Int) ∧ K (St.mk [(6, V.d (Abs.D.int IntKind.i64 (↑r : Int))), (7, V.own 0 0 (w + L.length + 1) 1), (9, V.d (Abs.D.int IntKind.i64 (↑(w + (P ++ [D + low]).length) : Int))), (8, V.d (Abs.D.int IntKind.u32 (↑q : Int)))] [(0, some (Blk.mk (u32s (List.replicate w 0 ++ (P ++ (D + low) :: R))) true))] 27)) (fun K => by kernel_rfl) ?_
        refine ⟨by rw [w64] <;> simp <;> omega, (P ++ [D + low], R, q), [(0, 0)], ⟨⟨by simp; omega, dg_append hP1 (dg_one d3), fun y hy => hR y (by simp [hy]), d4, ?_⟩, ?_⟩, ?_⟩
        · rw [val_append, List.length_append, List.length_singleton, Nat.pow_succ, ← hv]
          simp only [val]
          generalize 4294967296 ^ P.length = A
          generalize 2 ^ r = B at *
          grind
        · show R.length < (x :: R).length
          simp
        · rw [show (P ++ (D + low) :: R) = P ++ [D + low] ++ R by simp]
          (constructor <;> simp [hl, envOk, memOk, conv, St.get, St.blk])
      · simp at e2
        have hR0 : R = [] := List.length_eq_zero_iff.1 (by omega)
        subst hR0
        simp at hl1
        rw [List.append_nil]
        refine ⟨by simp; omega, dg_append (dg_zeros w) hP1, ?_⟩
        have hz : low = 0 := by
          have h1 : n < 4294967296 ^ L.length := by rw [← hvd]; exact val_lt hDg
          have h2 : n * 2 ^ r < 4294967296 ^ L.length * 4294967296 := by
            have h3 : 2 ^ r ≤ 4294967296 := by
              have := Nat.pow_le_pow_right (n := 2) (show 0 < 2 by omega) (show r ≤ 32 by omega)
              omega
            exact Nat.lt_of_lt_of_le (Nat.mul_lt_mul_of_pos_right h1 (Nat.pow_pos (by omega))) (Nat.mul_le_mul_left _ h3)
          rw [← hv, hl1, Nat.pow_succ] at h2
          simp only [val, Nat.zero_mul, Nat.add_zero] at h2
          rcases Nat.eq_zero_or_pos low with h | h
          · exact h
          · have := Nat.mul_le_mul_left (4294967296 ^ L.length * 4294967296) h
            omega
        subst hz
        simp only [val, Nat.zero_mul, Nat.add_zero, Nat.mul_zero] at hv
        rw [val_append, val_zeros, List.length_replicate, hv]
        grind
      · simp at e2
        have hR0 : R = [] := List.length_eq_zero_iff.1 (by omega)
        subst hR0
        simp at hl1
        have : (List.replicate w 0 ++ (P ++ [])).length = w + L.length + 1 := by simp; omega
        rw [this]
        (constructor <;> simp [hl, envOk, memOk, conv, St.get, St.blk])
    · simp; omega
    · simp at e
      rw [val_append, val_zeros, List.length_replicate, hvL0, e]
      simp [Nat.mul_comm]
    · have : (List.replicate w 0 ++ (L ++ [0])).length = w + L.length + 1 := by simp; omega
      rw [this]
      (constructor <;> simp [hl, envOk, memOk, conv, St.get, St.blk])
  intro o ⟨ho1, ho2, ho3⟩
  have ht2 := trimO' (by omega) ho2 ho3 0
  refine awp_sx prog_ok hP hnt [] [.lend (.own 0 0 (dig (n * (4294967296 ^ w * 2 ^ r))).length 1) [u32s (dig (n * (4294967296 ^ w * 2 ^ r)))]] [] [4] (by kernel_rfl) (G := fun K => (Blk.mk (u32s o) true).live = true ∧ Fn Try.prog 212 [V.own 0 0 o.length 1] [(0, Blk.mk (u32s o) true)] (V.own 0 0 (dig (n * (4294967296 ^ w * 2 ^ r))).length 1) [(0, Blk.mk (u32s (dig (n * (4294967296 ^ w * 2 ^ r)))) true)] ∧ K (St.mk [(4, V.own 0 0 (dig (n * (4294967296 ^ w * 2 ^ r))).length 1)] [(0, some (Blk.mk (u32s (dig (n * (4294967296 ^ w * 2 ^ r)))) true))] 4)) (fun K => by kernel_rfl) ?_
  exact ⟨rfl, ht2, awp_ret ⟨.inl rfl, .inl ⟨rfl, rfl, trivial⟩⟩⟩

/-- one digit of a shift to the right -/
theorem shr_digit {x y r Y : Nat} (hx : x < 4294967296) (hr : r < 32) (hy : y = Y % 4294967296) :
    (x / 2 ^ r ||| (y % 2 ^ (32 - (32 - r))) * 2 ^ (32 - r)) = x / 2 ^ r + (y % 2 ^ r) * 2 ^ (32 - r) ∧ (x / 2 ^ r + (y % 2 ^ r) * 2 ^ (32 - r)) + 4294967296 * (Y / 2 ^ r) = (x + 4294967296 * Y) / 2 ^ r ∧
    x / 2 ^ r + (y % 2 ^ r) * 2 ^ (32 - r) < 4294967296 ∧ (y % 2 ^ (32 - (32 - r))) * 2 ^ (32 - r) < 4294967296 := by
  have e : 4294967296 = 2 ^ r * 2 ^ (32 - r) := by rw [← Nat.pow_add, show r + (32 - r) = 32 by omega]
  have p1 : 0 < 2 ^ (32 - r) := Nat.pow_pos (by omega)
  have p2 : 0 < 2 ^ r := Nat.pow_pos (by omega)
  rw [show 32 - (32 - r) = r by omega]
  have hq : x / 2 ^ r < 2 ^ (32 - r) := by rw [Nat.div_lt_iff_lt_mul p2, Nat.mul_comm, ← e]; exact hx
  have hym : y % 2 ^ r = Y % 2 ^ r := by rw [hy, e, Nat.mod_mul_right_mod]
  rw [hym]
  have hm : Y % 2 ^ r < 2 ^ r := Nat.mod_lt _ p2
  have hdm := Nat.div_add_mod Y (2 ^ r)
  have hsum : (x + 4294967296 * Y) / 2 ^ r = x / 2 ^ r + 2 ^ (32 - r) * Y := by
    rw [e, Nat.mul_assoc, Nat.add_mul_div_left _ _ p2]
  rw [hsum]
  generalize Y % 2 ^ r = m at *
  generalize Y / 2 ^ r = t at *
  generalize x / 2 ^ r = q at *
  have hlt : m * 2 ^ (32 - r) + 2 ^ (32 - r) ≤ 4294967296 := by
    rw [e]
    have := Nat.mul_le_mul_right (2 ^ (32 - r)) (show m + 1 ≤ 2 ^ r from hm)
    rwa [Nat.add_mul, Nat.one_mul] at this
  refine ⟨by rw [Nat.or_comm, or_lt hq, Nat.add_comm], ?_, by omega, by omega⟩
  rw [← hdm, e]
  generalize 2 ^ (32 - r) = a
  generalize 2 ^ r = b
  grind

theorem val_head : ∀ (q : List Nat), Dg q → q.headD 0 = val q % 4294967296
  | [], _ => rfl
  | d :: q, h => by
    have := h d (by simp)
    show d = (d + 4294967296 * val q) % 4294967296
    omega
theorem val_drop {l : List Nat} (h : Dg l) (n : Nat) : val (l.drop n) = val l / 4294967296 ^ n := by
  have h1 := val_append (l.take n) (l.drop n)
  rw [List.take_append_drop] at h1
  have h2 := val_take_lt h n
  by_cases hn : n ≤ l.length
  · rw [List.length_take, Nat.min_eq_left hn] at h1
    rw [h1, Nat.add_mul_div_left _ _ (Nat.pow_pos (by omega)), Nat.div_eq_of_lt h2]; omega
  · rw [List.drop_of_length_le (by omega)]
    rw [Nat.div_eq_of_lt]
    · rfl
    · exact Nat.lt_of_lt_of_le (val_lt h) (Nat.pow_le_pow_right (by omega) (by omega))

theorem shr_fn (l : List Nat) (s : Nat) (h : l.length ≤ 2 ^ 39) (hd : Dg l) (hs : s ≤ 2 ^ 60) :
    Fn Try.prog 250 [.d (du l), .d (.int .i64 s)] [] (.d (du (dig (val l / 2 ^ s)))) [] := by
  refine fn0 (nt := 60) (res := [.tmp 4]) Try.func250 rfl (by decide) rfl rfl rfl rfl ?_
  intro Cx hP hnt hl
  have ht := trim_fn l (by omega) hd
  have hle := dig_le hd
  obtain ⟨n, hn⟩ : ∃ n, n = val l := ⟨_, rfl⟩
  rw [← hn] at ht hle ⊢
  have h2s := split32 s
  have ew : (s : Int).tdiv 32 = (s / 32 : Nat) := rfl
  have er : (s : Int).tmod 32 = (s % 32 : Nat) := rfl
  have hr : s % 32 < 32 := by omega
  have hw : s / 32 ≤ s := by omega
  obtain ⟨w, hw0⟩ : ∃ w, w = s / 32 := ⟨_, rfl⟩
  obtain ⟨r, hr0⟩ : ∃ r, r = s % 32 := ⟨_, rfl⟩
  rw [← hw0] at hw h2s ew
  rw [← hr0] at hr h2s er
  rw [h2s]
  have hlen : (dig n).length ≤ 2 ^ 39 := by omega
  have hvd := val_dig n
  have hDg := dig_lt n
  obtain ⟨L, hL⟩ : ∃ L, L = dig n := ⟨_, rfl⟩
  rw [← hL] at hlen hvd hDg ht
  refine awp_sx prog_ok hP hnt [] [] [] [0, 1] (by kernel_rfl) (G := fun K => K (St.mk [(0, V.d (du l)), (1, V.d (D.int IntKind.i64 (↑s : Int)))] [] 1)) (fun K => by kernel_rfl) ?_
  refine awp_sx prog_ok hP hnt [] [.val (.d (du L))] [] [0, 1] (by kernel_rfl) (G := fun K => Fn Try.prog 212 [V.d (du l)] [] (V.d (du L)) [] ∧ K (St.mk [(0, V.d (du L)), (1, V.d (D.int IntKind.i64 (↑s : Int)))] [] 4)) (fun K => by kernel_rfl) ?_
  refine ⟨ht, ?_⟩
  refine awp_sx prog_ok hP hnt [(13, .int .i64 s)] [] [] [0, 1] (by kernel_rfl) (G := fun K => (if (0 : Int) > (↑s : Int) then (0 : Int) else (↑s : Int)) = (↑s : Int) ∧ K (St.mk [(0, V.d (du L)), (1, V.d (D.int IntKind.i64 (↑s : Int)))] [] 7)) (fun K => by kernel_rfl) ?_
  refine ⟨by rw [if_neg (show ¬ (0 : Int) > (s : Int) by omega)], ?_⟩
  refine awp_sx prog_ok hP hnt [(15, .int .i64 w), (17, .int .i64 r)] [] [] [0, 5, 6] (by kernel_rfl) (G := fun K => (32 : Int) ≠ (0 : Int) ∧ IntKind.i64.wrap ((↑s : Int).tdiv (32 : Int)) = (↑w : Int) ∧ (32 : Int) ≠ (0 : Int) ∧ (↑s : Int).tmod (32 : Int) = (↑r : Int) ∧ K (St.mk [(0, V.d (du L)), (5, V.d (D.int IntKind.i64 (↑w : Int))), (6, V.d (D.int IntKind.i64 (↑r : Int)))] [] 13)) (fun K => by kernel_rfl) ?_
  refine ⟨by omega, by rw [ew, w64] <;> omega, by omega, er, ?_⟩
  refine awp_seq_k fun K hK => ?_
  refine awp_sx prog_ok hP hnt [] [] [] [0, 5, 6, 21] (by kernel_rfl) (G := fun K => K (St.mk [(0, V.d (du L)), (5, V.d (D.int IntKind.i64 (↑w : Int))), (6, V.d (D.int IntKind.i64 (↑r : Int))), (21, V.d (D.bool (decide ((↑w : Int) ≥ (↑L.length : Int)))))] [] 17)) (fun K => by kernel_rfl) ?_
  refine awp_cond rfl (fun e => ?_) (fun e => awp_skip (hK _ ?_))
  · simp at e
    have h0 : n / (4294967296 ^ w * 2 ^ r) = 0 := by
      rw [← Nat.div_div_eq_div_mul]
      have : n < 4294967296 ^ w := by
        rw [← hvd]
        exact Nat.lt_of_lt_of_le (val_lt hDg) (Nat.pow_le_pow_right (by omega) e)
      rw [Nat.div_eq_of_lt this, Nat.zero_div]
    rw [h0, dig_zero]
    refine awp_sx prog_ok hP hnt [] [] [] [4] (by kernel_rfl) (G := fun K => K (St.mk [(4, V.nil)] [] 18)) (fun K => by kernel_rfl) ?_
    exact awp_ret ⟨.inl rfl, retNil rfl⟩
  simp at e
  refine awp_sx prog_ok hP hnt [] [] [] [6, 7] (by kernel_rfl) (G := fun K => ((u32s L).length = L.length * 1 ∧ (0 : Int) ≤ (↑w : Int) ∧ (↑w : Int) ≤ (↑L.length : Int)) ∧ (List.drop ((↑w : Int).toNat * 1) (u32s L)).length = (L.length - (↑w : Int).toNat) * 1 ∧ (L.length - (↑w : Int).toNat) * 4 ≤ 2 ^ 47 ∧ K (St.mk [(6, V.d (D.int IntKind.i64 (↑r : Int))), (7, V.own 20 0 (L.length - (↑w : Int).toNat) 1)] [(20, some (Blk.mk (List.drop ((↑w : Int).toNat * 1) (u32s L)) true))] 22)) (fun K => by kernel_rfl) ?_
  obtain ⟨M, hM⟩ : ∃ M, M = L.drop w := ⟨_, rfl⟩
  have hMl : M.length = L.length - w := by rw [hM, List.length_drop]
  have hMd : Dg M := fun y hy => hDg y (List.mem_of_mem_drop (hM ▸ hy))
  have hMv : val M = n / 4294967296 ^ w := by rw [hM, val_drop hDg, hvd]
  rw [Int.toNat_natCast, Nat.mul_one w, u32s_drop, ← hM, ← hMl]
  refine ⟨⟨by simp, by omega, by omega⟩, by simp, by omega, ?_⟩
  rw [← Nat.div_div_eq_div_mul, ← hMv]
  refine awp_cut (ι := List Nat) (fun o => ⟨[(7, .own 0 0 o.length 1)], [(0, some ⟨u32s o, true⟩)], 1⟩) (fun o => o.length = M.length ∧ Dg o ∧ val o = val M / 2 ^ r) ?_ ?_
  · refine awp_sx prog_ok hP hnt [] [] [] [6, 7, 27] (by kernel_rfl) (G := fun K => K (St.mk [(6, V.d (D.int IntKind.i64 (↑r : Int))), (7, V.own 20 0 M.length 1), (27, V.d (D.bool (decide ((↑r : Int) > (0 : Int)))))] [(20, some (Blk.mk (u32s M) true))] 24)) (fun K => by kernel_rfl) ?_
    refine awp_cond rfl (fun e => ?_) (fun e => awp_skip ⟨M, [(0, 20)], ⟨rfl, hMd, ?_⟩, ?_⟩)
    · simp at e
      refine awp_sx prog_ok hP hnt [] [] [] [6, 7, 29, 30] (by kernel_rfl) (G := fun K => K (St.mk [(6, V.d (D.int IntKind.i64 (↑r : Int))), (7, V.own 20 0 M.length 1), (29, V.d (D.int IntKind.i64 (↑M.length : Int))), (30, V.d (D.int IntKind.i64 (0 : Int)))] [(20, some (Blk.mk (u32s M) true))] 27)) (fun K => by kernel_rfl) ?_
      refine awp_block ?_
      refine awp_loop (ι := List Nat × List Nat) (fun ⟨P, R⟩ => ⟨[(6, .d (.int .i64 r)), (7, .own 0 0 M.length 1), (29, .d (.int .i64 M.length)), (30, .d (.int .i64 P.length))], [(0, some ⟨u32s (P ++ R), true⟩)], 1⟩)
        (fun ⟨P, R⟩ => P.length + R.length = M.length ∧ Dg P ∧ Dg R ∧ val P + 4294967296 ^ P.length * (val R / 2 ^ r) = val M / 2 ^ r) (fun ⟨P, R⟩ => R.length) ([], M) [(0, 20)] ?_ ?_ ?_
      · exact ⟨by simp, by simp [Dg], hMd, by simp [val]⟩
      · (constructor <;> simp [hl, envOk, memOk, conv, St.get, St.blk])
      rintro ⟨P, R⟩ ⟨hl1, hP1, hR, hv⟩
      refine awp_sx prog_ok hP hnt [] [] [] [6, 7, 29, 30, 31] (by kernel_rfl) (G := fun K => K (St.mk [(6, V.d (D.int IntKind.i64 (↑r : Int))), (7, V.own 0 0 M.length 1), (29, V.d (D.int IntKind.i64 (↑M.length : Int))), (30, V.d (D.int IntKind.i64 (↑P.length : Int))), (31, V.d (D.bool (decide ((↑P.length : Int) < (↑M.length : Int)))))] [(0, some (Blk.mk (u32s (P ++ R)) true))] 2)) (fun K => by kernel_rfl) ?_
      refine awp_seq_k fun K1 hK1 => ?_
      refine awp_cond rfl (fun e2 => awp_skip (hK1 _ ?_)) (fun e2 => awp_exit ⟨P ++ R, [(0, 0)], ?_, ?_⟩)
      · simp at e2
        obtain ⟨x, R, rfl⟩ : ∃ x R', R = x :: R' := by
          cases R with
          | nil => simp at hl1; omega
          | cons x R' => exact ⟨x, R', rfl⟩
        have hx32 := hR x (by simp)
        have hR1 : Dg R := fun y hy => hR y (by simp [hy])
        simp only [List.length_cons] at hl1
        obtain ⟨d1, d2, d3, d4⟩ := shr_digit (x := x) (y := R.headD 0) (r := r) (Y := val R) hx32 hr (val_head R hR1)
        have hsl := shl_u32 (x := R.headD 0) (r := 32 - r) (by omega)
        rw [show 32 - (32 - r) = r by omega] at d1 d4 hsl
        have hsr := shr_u32 (x := x) (r := r) (by omega)
        obtain ⟨D, hD⟩ : ∃ D, D = (R.headD 0 % 2 ^ r) * 2 ^ (32 - r) := ⟨_, rfl⟩
        obtain ⟨q, hq⟩ : ∃ q, q = x / 2 ^ r := ⟨_, rfl⟩
        rw [← hD] at d1 d2 d3 d4 hsl
        rw [← hq] at d1 d2 d3 hsr
        have hor := or_u32 (x := q) (y := D) (by omega) d4
        rw [d1] at hor
        have hget := get_mid [] P R x
        have hset := set_mid [] P R x (q + D)
        simp only [List.nil_append, List.length_nil, Nat.zero_add] at hget hset
        refine awp_seq_k fun K2 hK2 => ?_
        refine awp_block ?_
        refine awp_sx prog_ok hP hnt [] [] [] [6, 7, 8, 29, 30] (by kernel_rfl) (G := fun K => K (St.mk [(6, V.d (Abs.D.int IntKind.i64 (↑r : Int))), (7, V.own 0 0 M.length 1), (29, V.d (Abs.D.int IntKind.i64 (↑M.length : Int))), (30, V.d (Abs.D.int IntKind.i64 (↑P.length : Int))), (8, V.d (Abs.D.int IntKind.i64 (↑P.length : Int)))] [(0, some (Blk.mk (u32s (P ++ x :: R)) true))] 4)) (fun K => by kernel_rfl) ?_
        refine awp_sx prog_ok hP hnt [] [] [] [6, 7, 8, 9, 29, 30] (by kernel_rfl) (G := fun K => K (St.mk [(6, V.d (Abs.D.int IntKind.i64 (↑r : Int))), (7, V.own 0 0 M.length 1), (29, V.d (Abs.D.int IntKind.i64 (↑M.length : Int))), (30, V.d (Abs.D.int IntKind.i64 (↑P.length : Int))), (8, V.d (Abs.D.int IntKind.i64 (↑P.length : Int))), (9, V.d (Abs.D.int IntKind.u32 (0 : Int)))] [(0, some (Blk.mk (u32s (P ++ x :: R)) true))] 5)) (fun K => by kernel_rfl) ?_
        refine awp_cut (ι := Unit) (fun _ => ⟨[(6, .d (.int .i64 r)), (7, .own 0 0 M.length 1), (8, .d (.int .i64 P.length)), (9, .d (.int .u32 D)), (29, .d (.int .i64 M.length)), (30, .d (.int .i64 P.length))], [(0, some ⟨u32s (P ++ x :: R), true⟩)], 1⟩) (fun _ => True) ?_ ?_
        · refine awp_sx prog_ok hP hnt [(34, .int .i64 (P.length + 1 : Nat))] [] [] [6, 7, 8, 9, 29, 30, 37] (by kernel_rfl) (G := fun K => IntKind.i64.wrap ((↑P.length : Int) + (1 : Int)) = (↑(P.length + 1) : Int) ∧ K (St.mk [(6, V.d (Abs.D.int IntKind.i64 (↑r : Int))), (7, V.own 0 0 M.length 1), (29, V.d (Abs.D.int IntKind.i64 (↑M.length : Int))), (30, V.d (Abs.D.int IntKind.i64 (↑P.length : Int))), (8, V.d (Abs.D.int IntKind.i64 (↑P.length : Int))), (9, V.d (Abs.D.int IntKind.u32 (0 : Int))), (37, V.d (Abs.D.bool (decide ((↑(P.length + 1) : Int) < (↑M.length : Int)))))] [(0, some (Blk.mk (u32s (P ++ x :: R)) true))] 10)) (fun K => by kernel_rfl) ?_
          refine ⟨by rw [w64] <;> omega, ?_⟩
          refine awp_cond rfl (fun e3 => ?_) (fun e3 => awp_skip ⟨(), [(0, 0)], trivial, ?_⟩)
          · simp at e3
            obtain ⟨y, R', rfl⟩ : ∃ y R', R = y :: R' := by
              cases R with
              | nil => simp at hl1; omega
              | cons y R' => exact ⟨y, R', rfl⟩
            have hget2 : (P ++ x :: y :: R')[P.length + 1]? = some y := by
              rw [List.getElem?_append_right (by omega), show P.length + 1 - P.length = 1 by omega]; rfl
            refine awp_x prog_ok hP hnt [(40, .int .i64 (P.length + 1 : Nat)), (44, .int .i64 (32 - r : Nat)), (45, .int .u32 D)] [] [some [.int .u32 y]] [6, 7, 8, 9, 29, 30] (by kernel_rfl) (G := fun K => IntKind.i64.wrap ((↑P.length : Int) + (1 : Int)) = (↑(P.length + 1) : Int) ∧ ((0 : Int) ≤ (↑(P.length + 1) : Int) ∧ (↑(P.length + 1) : Int) < (↑M.length : Int)) ∧ (u32s (P ++ x :: y :: R'))[0 + (↑(P.length + 1) : Int).toNat * 1]? = some (Abs.D.int IntKind.u32 (↑y : Int)) ∧ IntKind.i64.wrap ((32 : Int) - (↑r : Int)) = (↑(32 - r) : Int) ∧ (0 : Int) ≤ (↑(32 - r) : Int) ∧ IntKind.u32.wrap ((↑y : Int) * (2 : Int) ^ min (↑(32 - r) : Int).toNat IntKind.u32.bits) = (↑D : Int) ∧ K (St.mk [(6, V.d (Abs.D.int IntKind.i64 (↑r : Int))), (7, V.own 0 0 M.length 1), (29, V.d (Abs.D.int IntKind.i64 (↑M.length : Int))), (30, V.d (Abs.D.int IntKind.i64 (↑P.length : Int))), (8, V.d (Abs.D.int IntKind.i64 (↑P.length : Int))), (9, V.d (Abs.D.int IntKind.u32 (↑D : Int)))] [(0, some (Blk.mk (u32s (P ++ x :: y :: R')) true))] 19)) (fun K => by kernel_rfl) ?_
            refine ⟨by rw [w64] <;> omega, ⟨by omega, by omega⟩, by rw [Int.toNat_natCast, Nat.zero_add, Nat.mul_one, u32s_get, hget2]; rfl, by rw [w64] <;> omega, by omega, hsl, (), [(0, 0)], trivial, ?_⟩
            (constructor <;> simp [hl, envOk, memOk, conv, St.get, St.blk])
          · simp at e3
            have hRn : R = [] := List.length_eq_zero_iff.1 (by omega)
            subst hRn
            have hD0 : D = 0 := by rw [hD]; simp
            rw [hD0]
            (constructor <;> simp [hl, envOk, memOk, conv, St.get, St.blk])
        intro _ _
        refine awp_x prog_ok hP hnt [(53, .int .u32 q), (55, .int .u32 (q + D : Nat))] [] [some [.int .u32 x]] [6, 7, 29, 30] (by kernel_rfl) (G := fun K => ((0 : Int) ≤ (↑P.length : Int) ∧ (↑P.length : Int) < (↑M.length : Int)) ∧ (u32s (P ++ x :: R))[0 + (↑P.length : Int).toNat * 1]? = some (Abs.D.int IntKind.u32 (↑x : Int)) ∧ (0 : Int) ≤ (↑r : Int) ∧ (↑x : Int).fdiv ((2 : Int) ^ min (↑r : Int).toNat IntKind.u32.bits) = (↑q : Int) ∧ IntKind.u32.wrap (↑(BitVec.ofInt IntKind.u32.bits (↑q : Int) ||| BitVec.ofInt IntKind.u32.bits (↑D : Int)).toNat : Int) = (↑(q + D) : Int) ∧ ((0 : Int) ≤ (↑P.length : Int) ∧ (↑P.length : Int) < (↑M.length : Int)) ∧ 0 + (↑P.length : Int).toNat * 1 + [Abs.D.int IntKind.u32 (↑(q + D) : Int)].length ≤ (u32s (P ++ x :: R)).length ∧ K (St.mk [(6, V.d (Abs.D.int IntKind.i64 (↑r : Int))), (7, V.own 0 0 M.length 1), (29, V.d (Abs.D.int IntKind.i64 (↑M.length : Int))), (30, V.d (Abs.D.int IntKind.i64 (↑P.length : Int)))] [(0, some (Blk.mk (setCells (u32s (P ++ x :: R)) (0 + (↑P.length : Int).toNat * 1) [Abs.D.int IntKind.u32 (↑(q + D) : Int)]) true))] 13)) (fun K => by kernel_rfl) ?_
        refine ⟨⟨by omega, by omega⟩, by rw [Int.toNat_natCast, Nat.zero_add, Nat.mul_one, u32s_get, hget]; rfl, by omega, hsr, hor, ⟨by omega, by omega⟩, by simp, hK2 _ ?_⟩
        rw [Int.toNat_natCast, Nat.zero_add, Nat.mul_one, setCells_u32, hset]
        refine awp_x prog_ok hP hnt [(57, .int .i64 ((P ++ [q + D]).length : Nat))] [] [] [6, 7, 29, 30] (by kernel_rfl) (G := fun K => IntKind.i64.wrap ((↑P.length : Int) + (1 : Int)) = (↑(P ++ [q + D]).length : Int) ∧ K (St.mk [(6, V.d (Abs.D.int IntKind.i64 (↑r : Int))), (7, V.own 0 0 M.length 1), (29, V.d (Abs.D.int IntKind.i64 (↑M.length : Int))), (30, V.d (Abs.D.int IntKind.i64 (↑(P ++ [q + D]).length : Int)))] [(0, some (Blk.mk (u32s (P ++ (q + D) :: R)) true))] 15)) (fun K => by kernel_rfl) ?_
        refine ⟨by rw [List.length_append, List.length_singleton, w64] <;> omega, (P ++ [q + D], R), [(0, 0)], ⟨⟨by simp; omega, dg_append hP1 (dg_one d3), hR1, ?_⟩, ?_⟩, ?_⟩
        · have hvx : val (x :: R) = x + 4294967296 * val R := rfl
          rw [val_append, List.length_append, List.length_singleton, Nat.pow_succ, ← hv, hvx, ← d2]
          simp only [val]
          generalize 4294967296 ^ P.length = A
          grind
        · show R.length < (x :: R).length
          simp
        · rw [show (P ++ (q + D) :: R) = P ++ [q + D] ++ R by simp]
          (constructor <;> simp [hl, envOk, memOk, conv, St.get, St.blk])
      · simp at e2
        have hR0 : R = [] := List.length_eq_zero_iff.1 (by omega)
        subst hR0
        simp [val] at hl1 hv
        rw [List.append_nil]
        exact ⟨hl1, hP1, hv⟩
      · have : (P ++ R).length = M.length := by simp; omega
        rw [this]
        (constructor <;> simp [hl, envOk, memOk, conv, St.get, St.blk])
    · simp at e
      rw [e, Nat.pow_zero, Nat.div_one]
    · (constructor <;> simp [hl, envOk, memOk, conv, St.get, St.blk])
  intro o ⟨ho1, ho2, ho3⟩
  have ht2 := trim_fn o (by omega) ho2
  rw [ho3] at ht2
  refine awp_sx prog_ok hP hnt [] [.val (.d (du (dig (val M / 2 ^ r))))] [] [4] (by kernel_rfl) (G := fun K => Fn Try.prog 212 [V.d (D.lst o.length (List.take (o.length * 1) (List.drop 0 (u32s o))))] [] (V.d (du (dig (val M / 2 ^ r)))) [] ∧ K (St.mk [(4, V.d (du (dig (val M / 2 ^ r))))] [(0, some (Blk.mk (u32s o) false))] 4)) (fun K => by kernel_rfl) ?_
  rw [Nat.mul_one, own_du rfl]
  exact ⟨ht2, awp_ret ⟨.inl rfl, retD rfl⟩⟩
end Go.Abs

set_option linter.unusedVariables false
set_option linter.unusedSimpArgs false
namespace Go.Abs
open Go
set_option maxRecDepth 100000

/-! ### The guess of a digit: U = X + E*M*W3, V = Y + M*(t*B + x) -/
structure Gs (U V E M t x u0 u1 u2 : Nat) : Prop where
  hU : ∃ X, U = X + E * M * ((u0 * 4294967296 + u1) * 4294967296 + u2) ∧ X < E * M
  hV : ∃ Y, V = Y + M * (t * 4294967296 + x) ∧ Y < M
  lt : U < V * (4294967296 * E)
  t0 : 0 < t
  tb : t < 4294967296
  xb : x < 4294967296
  u0b : u0 < 4294967296
  u1b : u1 < 4294967296
  u2b : u2 < 4294967296

variable {U V E M t x u0 u1 u2 g r : Nat}

theorem Gs.up (h : Gs U V E M t x u0 u1 u2) {a : Nat} (ha : (u0 * 4294967296 + u1) * 4294967296 + u2 < a * (t * 4294967296 + x)) : U < a * V * E := by
  obtain ⟨X, h1, h2⟩ := h.hU
  obtain ⟨Y, h3, h4⟩ := h.hV
  obtain ⟨W, hW⟩ : ∃ W, W = (u0 * 4294967296 + u1) * 4294967296 + u2 := ⟨_, rfl⟩
  obtain ⟨V2, hV2⟩ : ∃ V2, V2 = t * 4294967296 + x := ⟨_, rfl⟩
  rw [← hW] at h1 ha
  rw [← hV2] at h3 ha
  clear hW hV2
  have e1 : E * M * (W + 1) ≤ E * M * (a * V2) := Nat.mul_le_mul_left _ ha
  have e2 : E * M * (a * V2) ≤ a * V * E := by
    have e3 : M * V2 ≤ V := by omega
    have e4 := Nat.mul_le_mul_left (a * E) e3
    have e5 : a * E * (M * V2) = E * M * (a * V2) := by grind
    have e6 : a * E * V = a * V * E := by grind
    omega
  rw [Nat.mul_add, Nat.mul_one] at e1
  omega

theorem Gs.init (h : Gs U V E M t x u0 u1 u2) (hg : g * t + r = u0 * 4294967296 + u1) (hr : r < t) : U < (g + 1) * V * E := by
  refine h.up ?_
  have := h.u2b
  have e : (g + 1) * (t * 4294967296 + x) = (g * t + t) * 4294967296 + (g + 1) * x := by grind
  have e2 : (u0 * 4294967296 + u1 + 1) * 4294967296 ≤ (g * t + t) * 4294967296 := Nat.mul_le_mul_right _ (by omega)
  rw [e]
  generalize (g + 1) * x = z
  omega

theorem Gs.dec1 (h : Gs U V E M t x u0 u1 u2) (hg : 4294967296 ≤ g) : U < g * V * E := by
  have := h.lt
  have e := Nat.mul_le_mul_right (V * E) hg
  have e1 : V * (4294967296 * E) = 4294967296 * (V * E) := by grind
  have e2 : g * (V * E) = g * V * E := by grind
  omega

theorem Gs.dec2 (h : Gs U V E M t x u0 u1 u2) (hg : g * t + r = u0 * 4294967296 + u1) (hc : r * 4294967296 + u2 < g * x) : U < g * V * E := by
  refine h.up ?_
  have e : g * (t * 4294967296 + x) = g * t * 4294967296 + g * x := by grind
  rw [e]
  rw [← hg, Nat.add_mul, Nat.add_assoc]
  exact Nat.add_lt_add_left hc _

theorem Gs.u0t (h : Gs U V E M t x u0 u1 u2) : u0 ≤ t := by
  rcases Nat.lt_or_ge t u0 with hlt | hge
  · exfalso
    obtain ⟨X, h1, h2⟩ := h.hU
    obtain ⟨Y, h3, h4⟩ := h.hV
    have := h.lt
    have hE : 0 < E := by
      rcases Nat.eq_zero_or_pos E with h0 | h0
      · subst h0; simp at h2
      · exact h0
    have hx := h.xb
    have e1 : V < M * ((t + 1) * 4294967296) := by
      have : M * (t * 4294967296 + x + 1) ≤ M * ((t + 1) * 4294967296) := Nat.mul_le_mul_left _ (by omega)
      rw [Nat.mul_add, Nat.mul_one] at this
      omega
    have e2 : V * (4294967296 * E) < M * ((t + 1) * 4294967296) * (4294967296 * E) := Nat.mul_lt_mul_of_pos_right e1 (by omega)
    have e3 : E * M * ((t + 1) * 4294967296 * 4294967296) ≤ E * M * ((u0 * 4294967296 + u1) * 4294967296 + u2) := Nat.mul_le_mul_left _ (by omega)
    have e4 : M * ((t + 1) * 4294967296) * (4294967296 * E) = E * M * ((t + 1) * 4294967296 * 4294967296) := by grind
    omega
  · exact hge

theorem Gs.brk (h : Gs U V E M t x u0 u1 u2) (hg : g * t + r = u0 * 4294967296 + u1) (hr : 4294967296 ≤ r) : g < 4294967296 ∧ g * x ≤ r * 4294967296 + u2 := by
  have h0 := h.u0t
  have h1 := h.u1b
  have ht := h.t0
  have hx := h.xb
  have hglt : g < 4294967296 := by
    rcases Nat.lt_or_ge g 4294967296 with h | h
    · exact h
    · exfalso
      have := Nat.mul_le_mul_right t h
      omega
  refine ⟨hglt, ?_⟩
  have := Nat.mul_le_mul (Nat.le_of_lt hglt) (Nat.le_of_lt hx)
  omega

theorem Gs.fin (h : Gs U V E M t x u0 u1 u2) (hg : g * t + r = u0 * 4294967296 + u1) (hc : g * x ≤ r * 4294967296 + u2) (hgb : g < 4294967296) : g * V * E < U + V * E := by
  obtain ⟨X, h1, h2⟩ := h.hU
  obtain ⟨Y, h3, h4⟩ := h.hV
  have ht := h.t0
  have hM : 0 < M := by omega
  have hE : 0 < E := by
    rcases Nat.eq_zero_or_pos E with h0 | h0
    · subst h0; simp at h2
    · exact h0
  have e1 : g * (t * 4294967296 + x) ≤ (u0 * 4294967296 + u1) * 4294967296 + u2 := by
    have : g * (t * 4294967296 + x) = g * t * 4294967296 + g * x := by grind
    rw [this, ← hg]
    obtain ⟨z, hz⟩ : ∃ z, z = g * t := ⟨_, rfl⟩
    rw [← hz]
    omega
  obtain ⟨W, hW⟩ : ∃ W, W = (u0 * 4294967296 + u1) * 4294967296 + u2 := ⟨_, rfl⟩
  rw [← hW] at h1 e1
  clear hW
  have e2 : M * 4294967296 ≤ V := by
    have : M * 4294967296 ≤ M * (t * 4294967296 + x) := Nat.mul_le_mul_left _ (by omega)
    omega
  have e3 : g * Y < 4294967296 * M := Nat.mul_lt_mul'' hgb h4
  have e4 : g * V < M * W + V := by
    have : M * (g * (t * 4294967296 + x)) ≤ M * W := Nat.mul_le_mul_left _ e1
    have e5 : g * V = g * Y + M * (g * (t * 4294967296 + x)) := by rw [h3]; grind
    omega
  have e6 := Nat.mul_lt_mul_of_pos_right e4 hE
  have e7 : (M * W + V) * E = E * M * W + V * E := by grind
  omega

/-! ### Multiply and subtract -/
/-- one word: y - w - pl in 64 bits -/
theorem sub_word {y w pl : Nat} {T : Int} (hy : y < 4294967296) (hw : w ≤ 1) (hpl : pl < 4294967296) (hT : T = (y : Int) - w - pl) :
    ∃ d f : Nat, (T % 18446744073709551616 % 4294967296 = d) ∧ T % 18446744073709551616 / 9223372036854775808 = f ∧ f ≤ 1 ∧ d < 4294967296 ∧ d + w + pl = y + 4294967296 * f := by
  refine ⟨(T % 18446744073709551616 % 4294967296).toNat, (T % 18446744073709551616 / 9223372036854775808).toNat, by omega, by omega, by omega, by omega, by omega⟩

theorem msub_step {o O v : List Nat} {j i g c w d f x y pl c' : Nat} (ho : j + i < o.length) (hy : O[j + i]? = some y) (hx : v[i]? = some x)
    (hp : g * x + c = c' * 4294967296 + pl) (hd : d + w + pl = y + 4294967296 * f)
    (h : val (o.take (j + i)) + 4294967296 ^ j * (g * val (v.take i)) = val (O.take (j + i)) + 4294967296 ^ (j + i) * (c + w)) :
    val ((o.set (j + i) d).take (j + i + 1)) + 4294967296 ^ j * (g * val (v.take (i + 1))) = val (O.take (j + i + 1)) + 4294967296 ^ (j + i + 1) * (c' + f) := by
  rw [val_set ho, val_take_succ hy, val_take_succ hx, Nat.pow_succ]
  have e2 : 4294967296 ^ (j + i) = 4294967296 ^ j * 4294967296 ^ i := Nat.pow_add _ _ _
  generalize 4294967296 ^ j = A at *
  generalize 4294967296 ^ i = B at *
  generalize 4294967296 ^ (j + i) = C at *
  have : C * (g * x + c) = C * (c' * 4294967296 + pl) := by rw [hp]
  have : C * (d + w + pl) = C * (y + 4294967296 * f) := by rw [hd]
  grind

theorem addb_step {o O v : List Nat} {j i c d f x y : Nat} (ho : j + i < o.length) (hy : O[j + i]? = some y) (hx : v[i]? = some x)
    (hd : y + x + c = d + 4294967296 * f)
    (h : val (o.take (j + i)) + 4294967296 ^ (j + i) * c = val (O.take (j + i)) + 4294967296 ^ j * val (v.take i)) :
    val ((o.set (j + i) d).take (j + i + 1)) + 4294967296 ^ (j + i + 1) * f = val (O.take (j + i + 1)) + 4294967296 ^ j * val (v.take (i + 1)) := by
  rw [val_set ho, val_take_succ hy, val_take_succ hx, Nat.pow_succ]
  have e2 : 4294967296 ^ (j + i) = 4294967296 ^ j * 4294967296 ^ i := Nat.pow_add _ _ _
  generalize 4294967296 ^ j = A at *
  generalize 4294967296 ^ i = B at *
  generalize 4294967296 ^ (j + i) = C at *
  have : C * (y + x + c) = C * (d + 4294967296 * f) := by rw [hd]
  grind

/-- what the digits of the top say -/
theorem gs_of {u v : List Nat} {j m t x u0 u1 u2 : Nat} (hu : Dg u) (hv : Dg v) (hvl : v.length = m + 2) (ht : v[m + 1]? = some t) (hx : v[m]? = some x)
    (h0 : u[j + m + 2]? = some u0) (h1 : u[j + m + 1]? = some u1) (h2 : u[j + m]? = some u2) (hUt : val (u.take (j + m + 3)) = val u) (hlt : val u < val v * (4294967296 * 4294967296 ^ j)) (t0 : 0 < t) :
    Gs (val u) (val v) (4294967296 ^ j) (4294967296 ^ m) t x u0 u1 u2 where
  hU := by
    refine ⟨val (u.take (j + m)), ?_, by rw [← Nat.pow_add]; exact val_take_lt hu _⟩
    have e1 : 4294967296 ^ (j + m + 2) = 4294967296 ^ j * 4294967296 ^ m * 4294967296 * 4294967296 := by rw [show j + m + 2 = j + m + 1 + 1 by omega, Nat.pow_succ, Nat.pow_succ, Nat.pow_add]
    have e2 : 4294967296 ^ (j + m + 1) = 4294967296 ^ j * 4294967296 ^ m * 4294967296 := by rw [Nat.pow_succ, Nat.pow_add]
    have e3 : 4294967296 ^ (j + m) = 4294967296 ^ j * 4294967296 ^ m := Nat.pow_add _ _ _
    rw [← hUt, val_take_succ h0, val_take_succ h1, val_take_succ h2, e1, e2, e3]
    generalize 4294967296 ^ j = A
    generalize 4294967296 ^ m = B
    grind
  hV := by
    refine ⟨val (v.take m), ?_, val_take_lt hv _⟩
    have : val v = val (v.take (m + 2)) := by rw [List.take_of_length_le (by omega)]
    rw [this, val_take_succ ht, val_take_succ hx, Nat.pow_succ]
    generalize 4294967296 ^ m = B
    grind
  lt := hlt
  t0 := t0
  tb := dg_get hv ht
  xb := dg_get hv hx
  u0b := dg_get hu h0
  u1b := dg_get hu h1
  u2b := dg_get hu h2
end Go.Abs

set_option linter.unusedVariables false
set_option linter.unusedSimpArgs false
namespace Go.Abs
open Go Go.Proofs
set_option maxRecDepth 100000

/-- a part of a body -/
def part' : List Bool → Code → Code
  | [], c => c
  | false :: ps, .seq a _ => part' ps a
  | true :: ps, .seq _ b => part' ps b
  | _ :: ps, .block _ c => part' ps c
  | _ :: ps, .loop c => part' ps c
  | _ :: ps, .scope c => part' ps c
  | false :: ps, .cond _ a _ => part' ps a
  | true :: ps, .cond _ _ b => part' ps b
  | _, c => c

noncomputable abbrev longBody : Code := part' [true, true, true, true, true, true, true, true, true, true, true, true, false, true, true, true, true, false, true] (Try.f240.body.getD .skip)
noncomputable abbrev longGuess : Code := part' [true, false] longBody
noncomputable abbrev longSub : Code := part' [true, true, true, false] longBody
noncomputable abbrev longBack : Code := part' [true, true, true, true, true, true, true, true, true, true, false] longBody

noncomputable def longSt (m k0 s : Nat) (v u q : List Nat) (t x j : Nat) (more : List (Nat × V)) : St :=
  ⟨[(4, .own 1 0 k0 1), (6, .d (.int .i64 (m + 2 : Nat))), (10, .d (.int .i64 s)), (11, .d (du v)), (12, .own 0 0 (k0 + (m + 2)) 1), (13, .d (.int .u64 t)), (14, .d (.int .u64 x)), (15, .d (.int .i64 j))] ++ more, [(0, some ⟨u32s u, true⟩), (1, some ⟨u32s q, true⟩)], 2⟩

theorem guess_loop {Cx : Ctx} (hP : Cx.P = Try.prog) (hnt : Cx.nt = 251) (hl : Cx.lids = []) {Q : Exit → St → Prop} {m k0 s : Nat} {v u q : List Nat} {t x j V E M U0 U1 U2 gg rr : Nat}
    (hG : Gs (val u) V E M t x U0 U1 U2) (hjk : j < k0) (hul : u.length = k0 + (m + 2)) (hmk : k0 + (m + 2) ≤ 2 ^ 40)
    (g2 : u[j + m]? = some U2) (hgN : gg * t + rr = U0 * 4294967296 + U1) (hrt : rr < t) :
    AWP Cx longGuess (longSt m k0 s v u q t x j [(16, .d (.int .u64 gg)), (17, .d (.int .u64 rr))])
      (thenQ (fun s' => ∃ (g : Nat) (ρ : List (Nat × Nat)), (g < 4294967296 ∧ val u < (g + 1) * V * E ∧ g * V * E < val u + V * E) ∧ Weak Cx.lids ρ s' (longSt m k0 s v u q t x j [(16, .d (.int .u64 g))])) Q) := by
  have hU0 := hG.u0b
  have hU1 := hG.u1b
  have hU2 := hG.u2b
  have htb := hG.tb
  have hxb := hG.xb
  have ht0 := hG.t0
  have hut := hG.u0t
  have gu2 : (u32s u)[0 + ((j + m : Nat) : Int).toNat * 1]? = some (D.int .u32 U2) := by rw [Int.toNat_natCast, Nat.zero_add, Nat.mul_one, u32s_get, g2]; rfl
  have hj2 : IntKind.i64.wrap ((j : Int) + (m + 2 : Nat)) = (j + m + 2 : Nat) := by rw [w64] <;> omega
  have hj0 : IntKind.i64.wrap (IntKind.i64.wrap ((j : Int) + (m + 2 : Nat)) - 2) = (j + m : Nat) := by rw [hj2, w64] <;> omega
  have hg64 : gg < 18446744073709551616 := by
    have : gg * 1 ≤ gg * t := Nat.mul_le_mul_left _ ht0
    omega
  unfold longSt
  refine awp_block ?_
  refine awp_loop (ι := Nat × Nat) (fun ⟨g, r⟩ => ⟨[(4, .own 1 0 k0 1), (6, .d (.int .i64 (m + 2 : Nat))), (10, .d (.int .i64 s)), (11, .d (du v)), (12, .own 0 0 (k0 + (m + 2)) 1), (13, .d (.int .u64 t)), (14, .d (.int .u64 x)), (15, .d (.int .i64 j)), (16, .d (.int .u64 g)), (17, .d (.int .u64 r))], [(0, some ⟨u32s u, true⟩), (1, some ⟨u32s q, true⟩)], 2⟩)
    (fun ⟨g, r⟩ => g * t + r = U0 * 4294967296 + U1 ∧ r < 4294967296 ∧ val u < (g + 1) * V * E ∧ g < 18446744073709551616) (fun ⟨g, r⟩ => g) (gg, rr) [(0, 0), (1, 1)] ?_ ?_ ?_
  · exact ⟨hgN, by omega, hG.init hgN hrt, hg64⟩
  · (constructor <;> simp [hl, envOk, memOk, conv, St.get, St.blk])
  rintro ⟨g, r⟩ ⟨hgr, hr32, hgU, hg64⟩
  refine awp_cut (ι := Unit) (fun _ => ⟨[(4, .own 1 0 k0 1), (6, .d (.int .i64 (m + 2 : Nat))), (10, .d (.int .i64 s)), (11, .d (du v)), (12, .own 0 0 (k0 + (m + 2)) 1), (13, .d (.int .u64 t)), (14, .d (.int .u64 x)), (15, .d (.int .i64 j)), (16, .d (.int .u64 g)), (17, .d (.int .u64 r))], [(0, some ⟨u32s u, true⟩), (1, some ⟨u32s q, true⟩)], 2⟩)
    (fun _ => 1 ≤ g ∧ val u < g * V * E) ?_ ?_
  · by_cases hc : 4294967296 ≤ g
    · refine awp_sx prog_ok hP hnt [(116, .bool true)] [] [] [4, 6, 10, 11, 12, 13, 14, 15, 16, 17, 133] (by kernel_rfl) (G := fun K => decide ((↑g : Int) ≥ (4294967296 : Int)) = true ∧ K (St.mk [(4, Abs.V.own 1 0 k0 1), (6, Abs.V.d (D.int IntKind.i64 (↑(m + 2) : Int))), (10, Abs.V.d (D.int IntKind.i64 (↑s : Int))), (11, Abs.V.d (du v)), (12, Abs.V.own 0 0 (k0 + (m + 2)) 1), (13, Abs.V.d (D.int IntKind.u64 (↑t : Int))), (14, Abs.V.d (D.int IntKind.u64 (↑x : Int))), (15, Abs.V.d (D.int IntKind.i64 (↑j : Int))), (16, Abs.V.d (D.int IntKind.u64 (↑g : Int))), (17, Abs.V.d (D.int IntKind.u64 (↑r : Int))), (133, Abs.V.d (D.bool true))] [(0, some (Blk.mk (u32s u) true)), (1, some (Blk.mk (u32s q) true))] 21)) (fun K => by kernel_rfl) ?_
      refine ⟨by simp; omega, awp_cond (b := true) rfl (fun _ => awp_skip ⟨(), [(0, 0), (1, 1)], ⟨by omega, hG.dec1 hc⟩, ?_⟩) nofun⟩
      (constructor <;> simp [hl, envOk, memOk, conv, St.get, St.blk])
    · have hgx : g * x ≤ 4294967295 * 4294967295 := Nat.mul_le_mul (by omega) (by omega)
      have e3 := shl32 hr32
      have e4 := or_w hr32 hU2
      refine awp_sx prog_ok hP hnt [(116, .bool false), (120, .int .u64 (g * x : Nat)), (122, .int .u64 (r * 4294967296 : Nat)), (127, .int .i64 (j + m : Nat)), (130, .int .u64 U2), (131, .int .u64 (r * 4294967296 + U2 : Nat))] [] [some [.int .u32 U2]] [4, 6, 10, 11, 12, 13, 14, 15, 16, 17, 133] (by kernel_rfl) (G := fun K => decide ((↑g : Int) ≥ (4294967296 : Int)) = false ∧ IntKind.u64.wrap ((↑g : Int) * (↑x : Int)) = (↑(g * x) : Int) ∧ (0 : Int) ≤ (32 : Int) ∧ IntKind.u64.wrap ((↑r : Int) * (2 : Int) ^ min (Int.toNat (32 : Int)) IntKind.u64.bits) = (↑(r * 4294967296) : Int) ∧ IntKind.i64.wrap (IntKind.i64.wrap ((↑j : Int) + (↑(m + 2) : Int)) - (2 : Int)) = (↑(j + m) : Int) ∧ ((0 : Int) ≤ (↑(j + m) : Int) ∧ (↑(j + m) : Int) < (↑(k0 + (m + 2)) : Int)) ∧ (u32s u)[0 + (↑(j + m) : Int).toNat * 1]? = some (D.int IntKind.u32 (↑U2 : Int)) ∧ IntKind.u64.wrap (↑U2 : Int) = (↑U2 : Int) ∧ IntKind.u64.wrap (↑(BitVec.ofInt IntKind.u64.bits (↑(r * 4294967296) : Int) ||| BitVec.ofInt IntKind.u64.bits (↑U2 : Int)).toNat : Int) = (↑(r * 4294967296 + U2) : Int) ∧ K (St.mk [(4, Abs.V.own 1 0 k0 1), (6, Abs.V.d (D.int IntKind.i64 (↑(m + 2) : Int))), (10, Abs.V.d (D.int IntKind.i64 (↑s : Int))), (11, Abs.V.d (du v)), (12, Abs.V.own 0 0 (k0 + (m + 2)) 1), (13, Abs.V.d (D.int IntKind.u64 (↑t : Int))), (14, Abs.V.d (D.int IntKind.u64 (↑x : Int))), (15, Abs.V.d (D.int IntKind.i64 (↑j : Int))), (16, Abs.V.d (D.int IntKind.u64 (↑g : Int))), (17, Abs.V.d (D.int IntKind.u64 (↑r : Int))), (133, Abs.V.d (D.bool (decide ((↑(g * x) : Int) > (↑(r * 4294967296 + U2) : Int)))))] [(0, some (Blk.mk (u32s u) true)), (1, some (Blk.mk (u32s q) true))] 21)) (fun K => by kernel_rfl) ?_
      refine ⟨by simp; omega, by rw [← Int.natCast_mul, u64w] <;> omega, by omega, e3, hj0, ⟨by omega, by omega⟩, gu2, u64w (by omega) (by omega), e4, ?_⟩
      refine awp_cond rfl (fun e5 => awp_skip ⟨(), [(0, 0), (1, 1)], ?_, ?_⟩) (fun e5 => awp_exit ⟨g, [(0, 0), (1, 1)], ?_, ?_⟩)
      · have e6 := of_decide_eq_true e5
        have e7 : r * 4294967296 + U2 < g * x := by exact_mod_cast e6
        refine ⟨?_, hG.dec2 hgr e7⟩
        rcases Nat.eq_zero_or_pos g with h | h
        · subst h; rw [Nat.zero_mul] at e7; omega
        · exact h
      · (constructor <;> simp [hl, envOk, memOk, conv, St.get, St.blk])
      · have e6 := of_decide_eq_false e5
        have e7 : g * x ≤ r * 4294967296 + U2 := by
          rcases Nat.lt_or_ge (r * 4294967296 + U2) (g * x) with h | h
          · exact absurd (by exact_mod_cast h) e6
          · exact h
        exact ⟨by omega, hgU, hG.fin hgr e7 (by omega)⟩
      · (constructor <;> simp [hl, envOk, memOk, conv, St.get, St.blk])
  intro _ ⟨hg1, hgU2⟩
  have hgr2 : (g - 1) * t + (r + t) = U0 * 4294967296 + U1 := by
    rw [← hgr]
    obtain ⟨g', rfl⟩ : ∃ g', g = g' + 1 := ⟨g - 1, by omega⟩
    rw [Nat.add_sub_cancel, Nat.add_mul, Nat.one_mul]
    omega
  refine awp_block ?_
  refine awp_sx prog_ok hP hnt [(135, .int .u64 (g - 1 : Nat))] [] [] [4, 6, 10, 11, 12, 13, 14, 15, 16, 17] (by kernel_rfl) (G := fun K => IntKind.u64.wrap ((↑g : Int) - (1 : Int)) = (↑(g - 1) : Int) ∧ K (St.mk [(4, Abs.V.own 1 0 k0 1), (6, Abs.V.d (D.int IntKind.i64 (↑(m + 2) : Int))), (10, Abs.V.d (D.int IntKind.i64 (↑s : Int))), (11, Abs.V.d (du v)), (12, Abs.V.own 0 0 (k0 + (m + 2)) 1), (13, Abs.V.d (D.int IntKind.u64 (↑t : Int))), (14, Abs.V.d (D.int IntKind.u64 (↑x : Int))), (15, Abs.V.d (D.int IntKind.i64 (↑j : Int))), (16, Abs.V.d (D.int IntKind.u64 (↑(g - 1) : Int))), (17, Abs.V.d (D.int IntKind.u64 (↑r : Int)))] [(0, some (Blk.mk (u32s u) true)), (1, some (Blk.mk (u32s q) true))] 5)) (fun K => by kernel_rfl) ?_
  refine ⟨by rw [u64w] <;> omega, ?_⟩
  refine awp_sx prog_ok hP hnt [(138, .int .u64 (r + t : Nat))] [] [] [4, 6, 10, 11, 12, 13, 14, 15, 16, 17] (by kernel_rfl) (G := fun K => IntKind.u64.wrap ((↑r : Int) + (↑t : Int)) = (↑(r + t) : Int) ∧ K (St.mk [(4, Abs.V.own 1 0 k0 1), (6, Abs.V.d (D.int IntKind.i64 (↑(m + 2) : Int))), (10, Abs.V.d (D.int IntKind.i64 (↑s : Int))), (11, Abs.V.d (du v)), (12, Abs.V.own 0 0 (k0 + (m + 2)) 1), (13, Abs.V.d (D.int IntKind.u64 (↑t : Int))), (14, Abs.V.d (D.int IntKind.u64 (↑x : Int))), (15, Abs.V.d (D.int IntKind.i64 (↑j : Int))), (16, Abs.V.d (D.int IntKind.u64 (↑(g - 1) : Int))), (17, Abs.V.d (D.int IntKind.u64 (↑(r + t) : Int)))] [(0, some (Blk.mk (u32s u) true)), (1, some (Blk.mk (u32s q) true))] 9)) (fun K => by kernel_rfl) ?_
  refine ⟨by rw [u64w] <;> omega, ?_⟩
  refine awp_sx prog_ok hP hnt [] [] [] [4, 6, 10, 11, 12, 13, 14, 15, 16, 17, 140] (by kernel_rfl) (G := fun K => K (St.mk [(4, Abs.V.own 1 0 k0 1), (6, Abs.V.d (D.int IntKind.i64 (↑(m + 2) : Int))), (10, Abs.V.d (D.int IntKind.i64 (↑s : Int))), (11, Abs.V.d (du v)), (12, Abs.V.own 0 0 (k0 + (m + 2)) 1), (13, Abs.V.d (D.int IntKind.u64 (↑t : Int))), (14, Abs.V.d (D.int IntKind.u64 (↑x : Int))), (15, Abs.V.d (D.int IntKind.i64 (↑j : Int))), (16, Abs.V.d (D.int IntKind.u64 (↑(g - 1) : Int))), (17, Abs.V.d (D.int IntKind.u64 (↑(r + t) : Int))), (140, Abs.V.d (D.bool (decide ((↑(r + t) : Int) ≥ (4294967296 : Int)))))] [(0, some (Blk.mk (u32s u) true)), (1, some (Blk.mk (u32s q) true))] 11)) (fun K => by kernel_rfl) ?_
  refine awp_cond rfl (fun e5 => awp_exit ⟨g - 1, [(0, 0), (1, 1)], ?_, ?_⟩) (fun e5 => awp_skip ⟨(g - 1, r + t), [(0, 0), (1, 1)], ?_, ?_⟩)
  · simp at e5
    obtain ⟨h1, h2⟩ := hG.brk hgr2 (by omega)
    refine ⟨h1, ?_, hG.fin hgr2 h2 h1⟩
    rw [show g - 1 + 1 = g by omega]; exact hgU2
  · (constructor <;> simp [hl, envOk, memOk, conv, St.get, St.blk])
  · simp at e5
    refine ⟨⟨hgr2, by omega, ?_, by omega⟩, by show g - 1 < g; omega⟩
    rw [show g - 1 + 1 = g by omega]; exact hgU2
  · (constructor <;> simp [hl, envOk, memOk, conv, St.get, St.blk])
end Go.Abs

set_option linter.unusedVariables false
set_option linter.unusedSimpArgs false
namespace Go.Abs
open Go Go.Proofs
set_option maxRecDepth 100000

theorem and_u64 {p : Nat} (hp : p < 18446744073709551616) : IntKind.u64.wrap (BitVec.ofInt IntKind.u64.bits (p : Int) &&& BitVec.ofInt IntKind.u64.bits 4294967295).toNat = (p % 4294967296 : Nat) := by
  show IntKind.u64.wrap (BitVec.ofInt 64 (p : Int) &&& BitVec.ofInt 64 4294967295).toNat = _
  rw [BitVec.toNat_and, BitVec.ofInt_natCast, BitVec.toNat_ofNat, Nat.mod_eq_of_lt hp, show (BitVec.ofInt 64 4294967295).toNat = 2 ^ 32 - 1 from rfl, Nat.and_two_pow_sub_one_eq_mod]
  exact u64w (by omega) (by omega)

theorem sub_loop {Cx : Ctx} (hP : Cx.P = Try.prog) (hnt : Cx.nt = 251) (hl : Cx.lids = []) {Q : Exit → St → Prop} {m k0 s : Nat} {v u q : List Nat} {t x j g : Nat}
    (hud : Dg u) (hvd : Dg v) (hjk : j < k0) (hul : u.length = k0 + (m + 2)) (hvl : v.length = m + 2) (hmk : k0 + (m + 2) ≤ 2 ^ 40) (hg : g < 4294967296) :
    AWP Cx longSub (longSt m k0 s v u q t x j [(16, .d (.int .u64 g)), (18, .d (.int .u64 (0 : Nat))), (19, .d (.int .u64 (0 : Nat)))])
      (thenQ (fun s' => ∃ (z : List Nat × Nat × Nat) (ρ : List (Nat × Nat)), (z.1.length = u.length ∧ Dg z.1 ∧ z.1.drop (j + (m + 2)) = u.drop (j + (m + 2)) ∧ z.2.1 < 4294967296 ∧ z.2.2 ≤ 1 ∧
        val (z.1.take (j + (m + 2))) + 4294967296 ^ j * (g * val v) = val (u.take (j + (m + 2))) + 4294967296 ^ (j + (m + 2)) * (z.2.1 + z.2.2)) ∧
        Weak Cx.lids ρ s' (longSt m k0 s v z.1 q t x j [(16, .d (.int .u64 g)), (18, .d (.int .u64 z.2.1)), (19, .d (.int .u64 z.2.2))])) Q) := by
  unfold longSt
  refine awp_sx prog_ok hP hnt [] [] [] [4, 6, 10, 11, 12, 13, 14, 15, 16, 18, 19, 141, 142, 143] (by kernel_rfl) (G := fun K => K (St.mk [(4, V.own 1 0 k0 1), (6, V.d (D.int IntKind.i64 (↑(m + 2) : Int))), (10, V.d (D.int IntKind.i64 (↑s : Int))), (11, V.d (du v)), (12, V.own 0 0 (k0 + (m + 2)) 1), (13, V.d (D.int IntKind.u64 (↑t : Int))), (14, V.d (D.int IntKind.u64 (↑x : Int))), (15, V.d (D.int IntKind.i64 (↑j : Int))), (16, V.d (D.int IntKind.u64 (↑g : Int))), (18, V.d (D.int IntKind.u64 (↑0 : Int))), (19, V.d (D.int IntKind.u64 (↑0 : Int))), (141, V.d (du v)), (142, V.d (D.int IntKind.i64 (↑v.length : Int))), (143, V.d (D.int IntKind.i64 (0 : Int)))] [(0, some (Blk.mk (u32s u) true)), (1, some (Blk.mk (u32s q) true))] 5)) (fun K => by kernel_rfl) ?_
  refine awp_block ?_
  refine awp_loop (ι := Nat × List Nat × Nat × Nat) (fun ⟨i, o, c, w⟩ => ⟨[(4, .own 1 0 k0 1), (6, .d (.int .i64 (m + 2 : Nat))), (10, .d (.int .i64 s)), (11, .d (du v)), (12, .own 0 0 (k0 + (m + 2)) 1), (13, .d (.int .u64 t)), (14, .d (.int .u64 x)), (15, .d (.int .i64 j)), (16, .d (.int .u64 g)), (18, .d (.int .u64 c)), (19, .d (.int .u64 w)), (141, .d (du v)), (142, .d (.int .i64 (m + 2 : Nat))), (143, .d (.int .i64 i))], [(0, some ⟨u32s o, true⟩), (1, some ⟨u32s q, true⟩)], 2⟩)
    (fun ⟨i, o, c, w⟩ => i ≤ m + 2 ∧ o.length = u.length ∧ Dg o ∧ o.drop (j + i) = u.drop (j + i) ∧ c < 4294967296 ∧ w ≤ 1 ∧ val (o.take (j + i)) + 4294967296 ^ j * (g * val (v.take i)) = val (u.take (j + i)) + 4294967296 ^ (j + i) * (c + w)) (fun ⟨i, o, c, w⟩ => m + 2 - i) (0, u, 0, 0) [(0, 0), (1, 1)] ?_ ?_ ?_
  · refine ⟨by omega, rfl, hud, rfl, by omega, by omega, ?_⟩
    simp [val]
  · rw [← hvl]
    (constructor <;> simp [hl, envOk, memOk, conv, St.get, St.blk])
  rintro ⟨i, o, c, w⟩ ⟨hi, hol, hod, hdr, hc, hw, hv⟩
  refine awp_sx prog_ok hP hnt [] [] [] [4, 6, 10, 11, 12, 13, 14, 15, 16, 18, 19, 141, 142, 143, 144] (by kernel_rfl) (G := fun K => K (St.mk [(4, V.own 1 0 k0 1), (6, V.d (D.int IntKind.i64 (↑(m + 2) : Int))), (10, V.d (D.int IntKind.i64 (↑s : Int))), (11, V.d (du v)), (12, V.own 0 0 (k0 + (m + 2)) 1), (13, V.d (D.int IntKind.u64 (↑t : Int))), (14, V.d (D.int IntKind.u64 (↑x : Int))), (15, V.d (D.int IntKind.i64 (↑j : Int))), (16, V.d (D.int IntKind.u64 (↑g : Int))), (18, V.d (D.int IntKind.u64 (↑c : Int))), (19, V.d (D.int IntKind.u64 (↑w : Int))), (141, V.d (du v)), (142, V.d (D.int IntKind.i64 (↑(m + 2) : Int))), (143, V.d (D.int IntKind.i64 (↑i : Int))), (144, V.d (D.bool (decide ((↑i : Int) < (↑(m + 2) : Int)))))] [(0, some (Blk.mk (u32s o) true)), (1, some (Blk.mk (u32s q) true))] 3)) (fun K => by kernel_rfl) ?_
  refine awp_seq_k fun K1 hK1 => ?_
  refine awp_cond rfl (fun e => awp_skip (hK1 _ ?_)) (fun e => awp_exit ⟨(o, c, w), [(0, 0), (1, 1)], ?_, ?_⟩)
  · simp at e
    obtain ⟨X, gx⟩ := get_ex (l := v) (i := i) (by omega)
    obtain ⟨Y, gy⟩ := get_ex (l := u) (i := j + i) (by omega)
    have goy : o[j + i]? = some Y := by rw [get_drop_eq hdr (Nat.le_refl _)]; exact gy
    have hX := dg_get hvd gx
    have hY := dg_get hud gy
    refine awp_seq_k fun K2 hK2 => ?_
    refine awp_block ?_
    refine awp_sx prog_ok hP hnt [] [] [some [.int .u32 X]] [4, 6, 10, 11, 12, 13, 14, 15, 16, 18, 19, 20, 21, 141, 142, 143] (by kernel_rfl) (G := fun K => ((0 : Int) ≤ (↑i : Int) ∧ (↑i : Int) < (↑v.length : Int) ∧ ((↑i : Int).toNat + 1) * 1 ≤ (u32s v).length) ∧ (List.drop ((↑i : Int).toNat * 1) (u32s v))[0]? = some (D.int IntKind.u32 (↑X : Int)) ∧ K (St.mk [(4, V.own 1 0 k0 1), (6, V.d (D.int IntKind.i64 (↑(m + 2) : Int))), (10, V.d (D.int IntKind.i64 (↑s : Int))), (11, V.d (du v)), (12, V.own 0 0 (k0 + (m + 2)) 1), (13, V.d (D.int IntKind.u64 (↑t : Int))), (14, V.d (D.int IntKind.u64 (↑x : Int))), (15, V.d (D.int IntKind.i64 (↑j : Int))), (16, V.d (D.int IntKind.u64 (↑g : Int))), (18, V.d (D.int IntKind.u64 (↑c : Int))), (19, V.d (D.int IntKind.u64 (↑w : Int))), (141, V.d (du v)), (142, V.d (D.int IntKind.i64 (↑(m + 2) : Int))), (143, V.d (D.int IntKind.i64 (↑i : Int))), (20, V.d (D.int IntKind.i64 (↑i : Int))), (21, V.d (D.int IntKind.u32 (↑X : Int)))] [(0, some (Blk.mk (u32s o) true)), (1, some (Blk.mk (u32s q) true))] 8)) (fun K => by kernel_rfl) ?_
    have hgX : g * X ≤ 4294967295 * 4294967295 := Nat.mul_le_mul (by omega) (by omega)
    obtain ⟨p, hp⟩ : ∃ p, p = g * X + c := ⟨_, rfl⟩
    have hp64 : p < 18446744073709551616 := by omega
    refine ⟨⟨by omega, by omega, by simp; omega⟩, by rw [Int.toNat_natCast, Nat.mul_one, List.getElem?_drop, Nat.add_zero, u32s_get, gx]; rfl, ?_⟩
    refine awp_sx prog_ok hP hnt [(150, .int .u64 X), (151, .int .u64 (g * X : Nat)), (153, .int .u64 p)] [] [] [4, 6, 10, 11, 12, 13, 14, 15, 16, 19, 20, 22, 141, 142, 143] (by kernel_rfl) (G := fun K => IntKind.u64.wrap (↑X : Int) = (↑X : Int) ∧ IntKind.u64.wrap ((↑g : Int) * (↑X : Int)) = (↑(g * X) : Int) ∧ IntKind.u64.wrap ((↑(g * X) : Int) + (↑c : Int)) = (↑p : Int) ∧ K (St.mk [(4, V.own 1 0 k0 1), (6, V.d (D.int IntKind.i64 (↑(m + 2) : Int))), (10, V.d (D.int IntKind.i64 (↑s : Int))), (11, V.d (du v)), (12, V.own 0 0 (k0 + (m + 2)) 1), (13, V.d (D.int IntKind.u64 (↑t : Int))), (14, V.d (D.int IntKind.u64 (↑x : Int))), (15, V.d (D.int IntKind.i64 (↑j : Int))), (16, V.d (D.int IntKind.u64 (↑g : Int))), (19, V.d (D.int IntKind.u64 (↑w : Int))), (141, V.d (du v)), (142, V.d (D.int IntKind.i64 (↑(m + 2) : Int))), (143, V.d (D.int IntKind.i64 (↑i : Int))), (20, V.d (D.int IntKind.i64 (↑i : Int))), (22, V.d (D.int IntKind.u64 (↑p : Int)))] [(0, some (Blk.mk (u32s o) true)), (1, some (Blk.mk (u32s q) true))] 15)) (fun K => by kernel_rfl) ?_
    refine ⟨u64w (by omega) (by omega), by rw [← Int.natCast_mul, u64w] <;> omega, by rw [u64w] <;> omega, ?_⟩
    refine awp_sx prog_ok hP hnt [(155, .int .u64 (p / 4294967296 : Nat))] [] [] [4, 6, 10, 11, 12, 13, 14, 15, 16, 18, 19, 20, 22, 141, 142, 143] (by kernel_rfl) (G := fun K => (0 : Int) ≤ (32 : Int) ∧ (↑p : Int).fdiv ((2 : Int) ^ min (Int.toNat (32 : Int)) IntKind.u64.bits) = (↑(p / 4294967296) : Int) ∧ K (St.mk [(4, V.own 1 0 k0 1), (6, V.d (D.int IntKind.i64 (↑(m + 2) : Int))), (10, V.d (D.int IntKind.i64 (↑s : Int))), (11, V.d (du v)), (12, V.own 0 0 (k0 + (m + 2)) 1), (13, V.d (D.int IntKind.u64 (↑t : Int))), (14, V.d (D.int IntKind.u64 (↑x : Int))), (15, V.d (D.int IntKind.i64 (↑j : Int))), (16, V.d (D.int IntKind.u64 (↑g : Int))), (19, V.d (D.int IntKind.u64 (↑w : Int))), (141, V.d (du v)), (142, V.d (D.int IntKind.i64 (↑(m + 2) : Int))), (143, V.d (D.int IntKind.i64 (↑i : Int))), (20, V.d (D.int IntKind.i64 (↑i : Int))), (22, V.d (D.int IntKind.u64 (↑p : Int))), (18, V.d (D.int IntKind.u64 (↑(p / 4294967296) : Int)))] [(0, some (Blk.mk (u32s o) true)), (1, some (Blk.mk (u32s q) true))] 18)) (fun K => by kernel_rfl) ?_
    refine ⟨by omega, fdivN p 32, ?_⟩
    obtain ⟨d, f, hd1, hf1, hf2, hd2, hd3⟩ := sub_word hY hw (show p % 4294967296 < 4294967296 by omega) rfl
    have hji : IntKind.i64.wrap ((i : Int) + j) = (j + i : Nat) := by rw [w64] <;> omega
    have hT : IntKind.u64.wrap (IntKind.u64.wrap ((Y : Int) - w) - (p % 4294967296 : Nat)) = ((Y : Int) - w - (p % 4294967296 : Nat)) % 18446744073709551616 := by
      rw [IntKind.wrap_u64, IntKind.wrap_u64]; omega
    obtain ⟨T, hT0⟩ : ∃ T : Nat, (T : Int) = ((Y : Int) - w - (p % 4294967296 : Nat)) % 18446744073709551616 := ⟨(((Y : Int) - w - (p % 4294967296 : Nat)) % 18446744073709551616).toNat, by omega⟩
    rw [← hT0] at hT hd1 hf1
    refine awp_sx prog_ok hP hnt [(159, .int .i64 (j + i : Nat)), (162, .int .u64 Y), (166, .int .u64 (p % 4294967296 : Nat)), (167, .int .u64 T)] [] [some [.int .u32 Y]] [4, 6, 10, 11, 12, 13, 14, 15, 16, 18, 20, 23, 141, 142, 143] (by kernel_rfl) (G := fun K => IntKind.i64.wrap ((↑i : Int) + (↑j : Int)) = (↑(j + i) : Int) ∧ ((0 : Int) ≤ (↑(j + i) : Int) ∧ (↑(j + i) : Int) < (↑(k0 + (m + 2)) : Int)) ∧ (u32s o)[0 + (↑(j + i) : Int).toNat * 1]? = some (D.int IntKind.u32 (↑Y : Int)) ∧ IntKind.u64.wrap (↑Y : Int) = (↑Y : Int) ∧ IntKind.u64.wrap (↑(BitVec.ofInt IntKind.u64.bits (↑p : Int) &&& BitVec.ofInt IntKind.u64.bits (4294967295 : Int)).toNat : Int) = (↑(p % 4294967296) : Int) ∧ IntKind.u64.wrap (IntKind.u64.wrap ((↑Y : Int) - (↑w : Int)) - (↑(p % 4294967296) : Int)) = (↑T : Int) ∧ K (St.mk [(4, V.own 1 0 k0 1), (6, V.d (D.int IntKind.i64 (↑(m + 2) : Int))), (10, V.d (D.int IntKind.i64 (↑s : Int))), (11, V.d (du v)), (12, V.own 0 0 (k0 + (m + 2)) 1), (13, V.d (D.int IntKind.u64 (↑t : Int))), (14, V.d (D.int IntKind.u64 (↑x : Int))), (15, V.d (D.int IntKind.i64 (↑j : Int))), (16, V.d (D.int IntKind.u64 (↑g : Int))), (141, V.d (du v)), (142, V.d (D.int IntKind.i64 (↑(m + 2) : Int))), (143, V.d (D.int IntKind.i64 (↑i : Int))), (20, V.d (D.int IntKind.i64 (↑i : Int))), (18, V.d (D.int IntKind.u64 (↑(p / 4294967296) : Int))), (23, V.d (D.int IntKind.u64 (↑T : Int)))] [(0, some (Blk.mk (u32s o) true)), (1, some (Blk.mk (u32s q) true))] 31)) (fun K => by kernel_rfl) ?_
    refine ⟨hji, ⟨by omega, by omega⟩, by rw [Int.toNat_natCast, Nat.zero_add, Nat.mul_one, u32s_get, goy]; rfl, u64w (by omega) (by omega), and_u64 hp64, hT, ?_⟩
    refine awp_sx prog_ok hP hnt [(171, .int .i64 (j + i : Nat)), (173, .int .u32 d)] [] [] [4, 6, 10, 11, 12, 13, 14, 15, 16, 18, 23, 141, 142, 143] (by kernel_rfl) (G := fun K => IntKind.i64.wrap ((↑i : Int) + (↑j : Int)) = (↑(j + i) : Int) ∧ IntKind.u32.wrap (↑T : Int) = (↑d : Int) ∧ ((0 : Int) ≤ (↑(j + i) : Int) ∧ (↑(j + i) : Int) < (↑(k0 + (m + 2)) : Int)) ∧ 0 + (↑(j + i) : Int).toNat * 1 + [D.int IntKind.u32 (↑d : Int)].length ≤ (u32s o).length ∧ K (St.mk [(4, V.own 1 0 k0 1), (6, V.d (D.int IntKind.i64 (↑(m + 2) : Int))), (10, V.d (D.int IntKind.i64 (↑s : Int))), (11, V.d (du v)), (12, V.own 0 0 (k0 + (m + 2)) 1), (13, V.d (D.int IntKind.u64 (↑t : Int))), (14, V.d (D.int IntKind.u64 (↑x : Int))), (15, V.d (D.int IntKind.i64 (↑j : Int))), (16, V.d (D.int IntKind.u64 (↑g : Int))), (141, V.d (du v)), (142, V.d (D.int IntKind.i64 (↑(m + 2) : Int))), (143, V.d (D.int IntKind.i64 (↑i : Int))), (18, V.d (D.int IntKind.u64 (↑(p / 4294967296) : Int))), (23, V.d (D.int IntKind.u64 (↑T : Int)))] [(0, some (Blk.mk (setCells (u32s o) (0 + (↑(j + i) : Int).toNat * 1) [D.int IntKind.u32 (↑d : Int)]) true)), (1, some (Blk.mk (u32s q) true))] 39)) (fun K => by kernel_rfl) ?_
    refine ⟨hji, by rw [IntKind.wrap_u32]; omega, ⟨by omega, by omega⟩, by simp; omega, ?_⟩
    have hsh : (T : Int).fdiv (2 ^ (min (Int.toNat 63) IntKind.u64.bits)) = (f : Int) := by
      show (T : Int).fdiv (2 ^ 63) = _
      rw [fdivN]; omega
    refine awp_x prog_ok hP hnt [(176, .int .u64 f)] [] [] [4, 6, 10, 11, 12, 13, 14, 15, 16, 18, 19, 141, 142, 143] (by kernel_rfl) (G := fun K => (0 : Int) ≤ (63 : Int) ∧ (↑T : Int).fdiv ((2 : Int) ^ min (Int.toNat (63 : Int)) IntKind.u64.bits) = (↑f : Int) ∧ K (St.mk [(4, V.own 1 0 k0 1), (6, V.d (D.int IntKind.i64 (↑(m + 2) : Int))), (10, V.d (D.int IntKind.i64 (↑s : Int))), (11, V.d (du v)), (12, V.own 0 0 (k0 + (m + 2)) 1), (13, V.d (D.int IntKind.u64 (↑t : Int))), (14, V.d (D.int IntKind.u64 (↑x : Int))), (15, V.d (D.int IntKind.i64 (↑j : Int))), (16, V.d (D.int IntKind.u64 (↑g : Int))), (141, V.d (du v)), (142, V.d (D.int IntKind.i64 (↑(m + 2) : Int))), (143, V.d (D.int IntKind.i64 (↑i : Int))), (18, V.d (D.int IntKind.u64 (↑(p / 4294967296) : Int))), (19, V.d (D.int IntKind.u64 (↑f : Int)))] [(0, some (Blk.mk (setCells (u32s o) (0 + (↑(j + i) : Int).toNat * 1) [D.int IntKind.u32 (↑d : Int)]) true)), (1, some (Blk.mk (u32s q) true))] 42)) (fun K => by kernel_rfl) ?_
    refine ⟨by omega, hsh, hK2 _ ?_⟩
    refine awp_x prog_ok hP hnt [(177, .int .i64 (i + 1 : Nat))] [] [] [4, 6, 10, 11, 12, 13, 14, 15, 16, 18, 19, 141, 142, 143] (by kernel_rfl) (G := fun K => IntKind.i64.wrap ((↑i : Int) + (1 : Int)) = (↑(i + 1) : Int) ∧ K (St.mk [(4, V.own 1 0 k0 1), (6, V.d (D.int IntKind.i64 (↑(m + 2) : Int))), (10, V.d (D.int IntKind.i64 (↑s : Int))), (11, V.d (du v)), (12, V.own 0 0 (k0 + (m + 2)) 1), (13, V.d (D.int IntKind.u64 (↑t : Int))), (14, V.d (D.int IntKind.u64 (↑x : Int))), (15, V.d (D.int IntKind.i64 (↑j : Int))), (16, V.d (D.int IntKind.u64 (↑g : Int))), (141, V.d (du v)), (142, V.d (D.int IntKind.i64 (↑(m + 2) : Int))), (143, V.d (D.int IntKind.i64 (↑(i + 1) : Int))), (18, V.d (D.int IntKind.u64 (↑(p / 4294967296) : Int))), (19, V.d (D.int IntKind.u64 (↑f : Int)))] [(0, some (Blk.mk (setCells (u32s o) (0 + (↑(j + i) : Int).toNat * 1) [D.int IntKind.u32 (↑d : Int)]) true)), (1, some (Blk.mk (u32s q) true))] 44)) (fun K => by kernel_rfl) ?_
    have hstep := msub_step (c' := p / 4294967296) (by omega : j + i < o.length) gy gx (show g * X + c = p / 4294967296 * 4294967296 + p % 4294967296 by omega) hd3 hv
    refine ⟨by rw [w64] <;> omega, (i + 1, o.set (j + i) d, p / 4294967296, f), [(0, 0), (1, 1)], ⟨⟨by omega, by simp [hol], dg_set hod hd2, ?_, by omega, hf2, hstep⟩, by show m + 2 - (i + 1) < m + 2 - i; omega⟩, ?_⟩
    · rw [drop_set_lt (by omega), ← Nat.add_assoc, ← List.drop_drop, hdr, List.drop_drop]
    · rw [Int.toNat_natCast, Nat.zero_add, Nat.mul_one, setCells_u32]
      (constructor <;> simp [hl, envOk, memOk, conv, St.get, St.blk])
  · simp at e
    have hi2 : i = m + 2 := by omega
    subst hi2
    refine ⟨hol, hod, hdr, hc, hw, ?_⟩
    rwa [show v.take (m + 2) = v from List.take_of_length_le (by omega)] at hv
  · (constructor <;> simp [hl, envOk, memOk, conv, St.get, St.blk])
end Go.Abs

set_option linter.unusedVariables false
set_option linter.unusedSimpArgs false
namespace Go.Abs
open Go Go.Proofs
set_option maxRecDepth 100000

theorem back_loop {Cx : Ctx} (hP : Cx.P = Try.prog) (hnt : Cx.nt = 251) (hl : Cx.lids = []) {Q : Exit → St → Prop} {m k0 s : Nat} {v u q : List Nat} {t x j : Nat}
    (hud : Dg u) (hvd : Dg v) (hjk : j < k0) (hul : u.length = k0 + (m + 2)) (hvl : v.length = m + 2) (hmk : k0 + (m + 2) ≤ 2 ^ 40) :
    AWP Cx longBack (longSt m k0 s v u q t x j [(25, .d (.int .u32 (0 : Nat)))])
      (thenQ (fun s' => ∃ (z : List Nat × Nat) (ρ : List (Nat × Nat)), (z.1.length = u.length ∧ Dg z.1 ∧ z.1.drop (j + (m + 2)) = u.drop (j + (m + 2)) ∧ z.2 ≤ 1 ∧
        val (z.1.take (j + (m + 2))) + 4294967296 ^ (j + (m + 2)) * z.2 = val (u.take (j + (m + 2))) + 4294967296 ^ j * val v) ∧
        Weak Cx.lids ρ s' (longSt m k0 s v z.1 q t x j [(25, .d (.int .u32 z.2))])) Q) := by
  unfold longSt
  refine awp_sx prog_ok hP hnt [] [] [] [4, 6, 10, 11, 12, 13, 14, 15, 25, 210, 211, 212] (by kernel_rfl) (G := fun K => K (St.mk [(4, V.own 1 0 k0 1), (6, V.d (D.int IntKind.i64 (↑(m + 2) : Int))), (10, V.d (D.int IntKind.i64 (↑s : Int))), (11, V.d (du v)), (12, V.own 0 0 (k0 + (m + 2)) 1), (13, V.d (D.int IntKind.u64 (↑t : Int))), (14, V.d (D.int IntKind.u64 (↑x : Int))), (15, V.d (D.int IntKind.i64 (↑j : Int))), (25, V.d (D.int IntKind.u32 (↑0 : Int))), (210, V.d (du v)), (211, V.d (D.int IntKind.i64 (↑v.length : Int))), (212, V.d (D.int IntKind.i64 (0 : Int)))] [(0, some (Blk.mk (u32s u) true)), (1, some (Blk.mk (u32s q) true))] 5)) (fun K => by kernel_rfl) ?_
  refine awp_block ?_
  refine awp_loop (ι := Nat × List Nat × Nat) (fun ⟨i, o, c⟩ => ⟨[(4, .own 1 0 k0 1), (6, .d (.int .i64 (m + 2 : Nat))), (10, .d (.int .i64 s)), (11, .d (du v)), (12, .own 0 0 (k0 + (m + 2)) 1), (13, .d (.int .u64 t)), (14, .d (.int .u64 x)), (15, .d (.int .i64 j)), (25, .d (.int .u32 c)), (210, .d (du v)), (211, .d (.int .i64 (m + 2 : Nat))), (212, .d (.int .i64 i))], [(0, some ⟨u32s o, true⟩), (1, some ⟨u32s q, true⟩)], 2⟩)
    (fun ⟨i, o, c⟩ => i ≤ m + 2 ∧ o.length = u.length ∧ Dg o ∧ o.drop (j + i) = u.drop (j + i) ∧ c ≤ 1 ∧ val (o.take (j + i)) + 4294967296 ^ (j + i) * c = val (u.take (j + i)) + 4294967296 ^ j * val (v.take i)) (fun ⟨i, o, c⟩ => m + 2 - i) (0, u, 0) [(0, 0), (1, 1)] ?_ ?_ ?_
  · refine ⟨by omega, rfl, hud, rfl, by omega, ?_⟩
    simp [val]
  · rw [← hvl]
    (constructor <;> simp [hl, envOk, memOk, conv, St.get, St.blk])
  rintro ⟨i, o, c⟩ ⟨hi, hol, hod, hdr, hc, hv⟩
  refine awp_sx prog_ok hP hnt [] [] [] [4, 6, 10, 11, 12, 13, 14, 15, 25, 210, 211, 212, 213] (by kernel_rfl) (G := fun K => K (St.mk [(4, V.own 1 0 k0 1), (6, V.d (D.int IntKind.i64 (↑(m + 2) : Int))), (10, V.d (D.int IntKind.i64 (↑s : Int))), (11, V.d (du v)), (12, V.own 0 0 (k0 + (m + 2)) 1), (13, V.d (D.int IntKind.u64 (↑t : Int))), (14, V.d (D.int IntKind.u64 (↑x : Int))), (15, V.d (D.int IntKind.i64 (↑j : Int))), (25, V.d (D.int IntKind.u32 (↑c : Int))), (210, V.d (du v)), (211, V.d (D.int IntKind.i64 (↑(m + 2) : Int))), (212, V.d (D.int IntKind.i64 (↑i : Int))), (213, V.d (D.bool (decide ((↑i : Int) < (↑(m + 2) : Int)))))] [(0, some (Blk.mk (u32s o) true)), (1, some (Blk.mk (u32s q) true))] 3)) (fun K => by kernel_rfl) ?_
  refine awp_seq_k fun K1 hK1 => ?_
  refine awp_cond rfl (fun e => awp_skip (hK1 _ ?_)) (fun e => awp_exit ⟨(o, c), [(0, 0), (1, 1)], ?_, ?_⟩)
  · simp at e
    obtain ⟨X, gx⟩ := get_ex (l := v) (i := i) (by omega)
    obtain ⟨Y, gy⟩ := get_ex (l := u) (i := j + i) (by omega)
    have goy : o[j + i]? = some Y := by rw [get_drop_eq hdr (Nat.le_refl _)]; exact gy
    have hX := dg_get hvd gx
    have hY := dg_get hud gy
    have hji : IntKind.i64.wrap ((i : Int) + j) = (j + i : Nat) := by rw [w64] <;> omega
    refine awp_seq_k fun K2 hK2 => ?_
    refine awp_block ?_
    refine awp_sx prog_ok hP hnt [] [] [some [.int .u32 X]] [4, 6, 10, 11, 12, 13, 14, 15, 25, 26, 27, 210, 211, 212] (by kernel_rfl) (G := fun K => ((0 : Int) ≤ (↑i : Int) ∧ (↑i : Int) < (↑v.length : Int) ∧ ((↑i : Int).toNat + 1) * 1 ≤ (u32s v).length) ∧ (List.drop ((↑i : Int).toNat * 1) (u32s v))[0]? = some (D.int IntKind.u32 (↑X : Int)) ∧ K (St.mk [(4, V.own 1 0 k0 1), (6, V.d (D.int IntKind.i64 (↑(m + 2) : Int))), (10, V.d (D.int IntKind.i64 (↑s : Int))), (11, V.d (du v)), (12, V.own 0 0 (k0 + (m + 2)) 1), (13, V.d (D.int IntKind.u64 (↑t : Int))), (14, V.d (D.int IntKind.u64 (↑x : Int))), (15, V.d (D.int IntKind.i64 (↑j : Int))), (25, V.d (D.int IntKind.u32 (↑c : Int))), (210, V.d (du v)), (211, V.d (D.int IntKind.i64 (↑(m + 2) : Int))), (212, V.d (D.int IntKind.i64 (↑i : Int))), (26, V.d (D.int IntKind.i64 (↑i : Int))), (27, V.d (D.int IntKind.u32 (↑X : Int)))] [(0, some (Blk.mk (u32s o) true)), (1, some (Blk.mk (u32s q) true))] 8)) (fun K => by kernel_rfl) ?_
    refine ⟨⟨by omega, by omega, by simp; omega⟩, by rw [Int.toNat_natCast, Nat.mul_one, List.getElem?_drop, Nat.add_zero, u32s_get, gx]; rfl, ?_⟩
    have h32 := add32_fn Y X c hY hX (by omega)
    have hstep := addb_step (d := (Y + X + c) % 4294967296) (f := (Y + X + c) / 4294967296) (by omega : j + i < o.length) gy gx (by omega) hv
    refine awp_x prog_ok hP hnt [(221, .int .i64 (j + i : Nat)), (225, .int .i64 (j + i : Nat))] [.val (.tup [.d (.int .u32 ((Y + X + c) % 4294967296 : Nat)), .d (.int .u32 ((Y + X + c) / 4294967296 : Nat))])] [some [.int .u32 Y]] [4, 6, 10, 11, 12, 13, 14, 15, 25, 210, 211, 212] (by kernel_rfl) (G := fun K => IntKind.i64.wrap ((↑i : Int) + (↑j : Int)) = (↑(j + i) : Int) ∧ IntKind.i64.wrap ((↑i : Int) + (↑j : Int)) = (↑(j + i) : Int) ∧ ((0 : Int) ≤ (↑(j + i) : Int) ∧ (↑(j + i) : Int) < (↑(k0 + (m + 2)) : Int)) ∧ (u32s o)[0 + (↑(j + i) : Int).toNat * 1]? = some (D.int IntKind.u32 (↑Y : Int)) ∧ Fn Try.prog 228 [V.d (D.int IntKind.u32 (↑Y : Int)), V.d (D.int IntKind.u32 (↑X : Int)), V.d (D.int IntKind.u32 (↑c : Int))] [] (V.tup [V.d (D.int IntKind.u32 (↑((Y + X + c) % 4294967296) : Int)), V.d (D.int IntKind.u32 (↑((Y + X + c) / 4294967296) : Int))]) [] ∧ ((0 : Int) ≤ (↑(j + i) : Int) ∧ (↑(j + i) : Int) < (↑(k0 + (m + 2)) : Int)) ∧ 0 + (↑(j + i) : Int).toNat * 1 + [D.int IntKind.u32 (↑((Y + X + c) % 4294967296) : Int)].length ≤ (u32s o).length ∧ K (St.mk [(4, V.own 1 0 k0 1), (6, V.d (D.int IntKind.i64 (↑(m + 2) : Int))), (10, V.d (D.int IntKind.i64 (↑s : Int))), (11, V.d (du v)), (12, V.own 0 0 (k0 + (m + 2)) 1), (13, V.d (D.int IntKind.u64 (↑t : Int))), (14, V.d (D.int IntKind.u64 (↑x : Int))), (15, V.d (D.int IntKind.i64 (↑j : Int))), (25, V.d (D.int IntKind.u32 (↑((Y + X + c) / 4294967296) : Int))), (210, V.d (du v)), (211, V.d (D.int IntKind.i64 (↑(m + 2) : Int))), (212, V.d (D.int IntKind.i64 (↑i : Int)))] [(0, some (Blk.mk (setCells (u32s o) (0 + (↑(j + i) : Int).toNat * 1) [D.int IntKind.u32 (↑((Y + X + c) % 4294967296) : Int)]) true)), (1, some (Blk.mk (u32s q) true))] 27)) (fun K => by kernel_rfl) ?_
    refine ⟨hji, hji, ⟨by omega, by omega⟩, by rw [Int.toNat_natCast, Nat.zero_add, Nat.mul_one, u32s_get, goy]; rfl, h32, ⟨by omega, by omega⟩, by simp; omega, hK2 _ ?_⟩
    refine awp_x prog_ok hP hnt [(234, .int .i64 (i + 1 : Nat))] [] [] [4, 6, 10, 11, 12, 13, 14, 15, 25, 210, 211, 212] (by kernel_rfl) (G := fun K => IntKind.i64.wrap ((↑i : Int) + (1 : Int)) = (↑(i + 1) : Int) ∧ K (St.mk [(4, V.own 1 0 k0 1), (6, V.d (D.int IntKind.i64 (↑(m + 2) : Int))), (10, V.d (D.int IntKind.i64 (↑s : Int))), (11, V.d (du v)), (12, V.own 0 0 (k0 + (m + 2)) 1), (13, V.d (D.int IntKind.u64 (↑t : Int))), (14, V.d (D.int IntKind.u64 (↑x : Int))), (15, V.d (D.int IntKind.i64 (↑j : Int))), (25, V.d (D.int IntKind.u32 (↑((Y + X + c) / 4294967296) : Int))), (210, V.d (du v)), (211, V.d (D.int IntKind.i64 (↑(m + 2) : Int))), (212, V.d (D.int IntKind.i64 (↑(i + 1) : Int)))] [(0, some (Blk.mk (setCells (u32s o) (0 + (↑(j + i) : Int).toNat * 1) [D.int IntKind.u32 (↑((Y + X + c) % 4294967296) : Int)]) true)), (1, some (Blk.mk (u32s q) true))] 29)) (fun K => by kernel_rfl) ?_
    refine ⟨by rw [w64] <;> omega, (i + 1, o.set (j + i) ((Y + X + c) % 4294967296), (Y + X + c) / 4294967296), [(0, 0), (1, 1)], ⟨⟨by omega, by simp [hol], dg_set hod (by omega), ?_, by omega, hstep⟩, by show m + 2 - (i + 1) < m + 2 - i; omega⟩, ?_⟩
    · rw [drop_set_lt (by omega), ← Nat.add_assoc, ← List.drop_drop, hdr, List.drop_drop]
    · rw [Int.toNat_natCast, Nat.zero_add, Nat.mul_one, setCells_u32]
      (constructor <;> simp [hl, envOk, memOk, conv, St.get, St.blk])
  · simp at e
    have hi2 : i = m + 2 := by omega
    subst hi2
    refine ⟨hol, hod, hdr, hc, ?_⟩
    rwa [show v.take (m + 2) = v from List.take_of_length_le (by omega)] at hv
  · (constructor <;> simp [hl, envOk, memOk, conv, St.get, St.blk])
end Go.Abs

set_option linter.unusedVariables false
set_option linter.unusedSimpArgs false
namespace Go.Abs
open Go Go.Proofs
set_option maxRecDepth 100000

theorem take_small {u : List Nat} {n : Nat} (hn : n ≤ u.length) (h : val u < 4294967296 ^ n) : val (u.take n) = val u := by
  have h7 := val_append (u.take n) (u.drop n)
  rw [List.take_append_drop, List.length_take, Nat.min_eq_left hn] at h7
  obtain ⟨P, hP⟩ : ∃ P, P = 4294967296 ^ n := ⟨_, rfl⟩
  rw [← hP] at h7 h
  rcases Nat.eq_zero_or_pos (val (u.drop n)) with h8 | h8
  · rw [h7, h8, Nat.mul_zero, Nat.add_zero]
  · have := Nat.mul_le_mul_left P h8
    omega

theorem val_set_at : ∀ {l : List Nat} {i x : Nat}, l[i]? = some x → ∀ y, val (l.set i y) + 4294967296 ^ i * x = val l + 4294967296 ^ i * y
  | [], i, x, h, y => by simp at h
  | d :: l, 0, x, h, y => by
    simp at h
    subst h
    simp only [List.set_cons_zero, val, Nat.pow_zero, Nat.one_mul]
    omega
  | d :: l, i + 1, x, h, y => by
    have ih := val_set_at (l := l) (i := i) (x := x) (by simpa using h) y
    simp only [List.set_cons_succ, val, Nat.pow_succ]
    generalize 4294967296 ^ i = A at *
    grind

theorem val_split {l : List Nat} {n : Nat} (h : n ≤ l.length) : val l = val (l.take n) + 4294967296 ^ n * val (l.drop n) := by
  have h7 := val_append (l.take n) (l.drop n)
  rwa [List.take_append_drop, List.length_take, Nat.min_eq_left h] at h7

theorem val_lt_of_drop {l u : List Nat} {n : Nat} (hl : Dg l) (hu : Dg u) (hln : n ≤ l.length) (h : l.drop n = u.drop n) (hs : val u < 4294967296 ^ n) : val l < 4294967296 ^ n := by
  have h1 := val_split hln
  have h2 := val_drop hu n
  rw [Nat.div_eq_of_lt hs, ← h] at h2
  rw [h1, h2, Nat.mul_zero, Nat.add_zero]
  exact val_take_lt hl n

noncomputable abbrev longBlock : Code := part' [true, true, true, true, true, true, true, true, true, true, true, true, false, true, true, true, true, false] (Try.f240.body.getD .skip)

set_option maxHeartbeats 2000000 in
theorem digit_loop {Cx : Ctx} (hP : Cx.P = Try.prog) (hnt : Cx.nt = 251) (hl : Cx.lids = []) {Q : Exit → St → Prop} {m k0 s : Nat} {v u q : List Nat} {t x j A V : Nat}
    (hjk : j < k0) (hul : u.length = k0 + (m + 2)) (hud : Dg u) (hvd : Dg v) (hvv : val v = V) (ht4 : v.length = m + 2) (hmk : k0 + (m + 2) ≤ 2 ^ 40)
    (hql : q.length = k0) (hqd : Dg q) (hq0 : q.take (j + 1) = List.replicate (j + 1) 0) (hAv : A = val q * V + val u) (hult : val u < V * 4294967296 ^ (j + 1))
    (htv : v[m + 1]? = some t) (hxv : v[m]? = some x) (ht0 : 0 < t) :
    AWP Cx longBlock (longSt m k0 s v u q t x j [])
      (thenQ (fun s' => ∃ (z : List Nat × List Nat) (ρ : List (Nat × Nat)), (z.1.length = k0 + (m + 2) ∧ Dg z.1 ∧ z.2.length = k0 ∧ Dg z.2 ∧ z.2.take j = List.replicate j 0 ∧ A = val z.2 * V + val z.1 ∧ val z.1 < V * 4294967296 ^ j) ∧
        Weak Cx.lids ρ s' (longSt m k0 s v z.1 z.2 t x j [])) Q) := by
  obtain ⟨U0, g0⟩ := get_ex (l := u) (i := j + m + 2) (by omega)
  obtain ⟨U1, g1⟩ := get_ex (l := u) (i := j + m + 1) (by omega)
  obtain ⟨U2, g2⟩ := get_ex (l := u) (i := j + m) (by omega)
  have hVn : V < 4294967296 ^ (m + 2) := by have := val_lt hvd; rwa [hvv, ht4] at this
  have hpE : 0 < 4294967296 ^ j := Nat.pow_pos (by omega)
  have hult' : val u < V * (4294967296 * 4294967296 ^ j) := by rwa [Nat.pow_succ, Nat.mul_comm (4294967296 ^ j)] at hult
  have hutop : val u < 4294967296 ^ (j + m + 3) := by
    have h1 := Nat.mul_lt_mul_of_pos_right hVn (show 0 < 4294967296 * 4294967296 ^ j by omega)
    have h2 : 4294967296 ^ (m + 2) * (4294967296 * 4294967296 ^ j) = 4294967296 ^ (j + m + 3) := by
      rw [Nat.mul_comm 4294967296, ← Nat.pow_succ, ← Nat.pow_add]; congr 1; omega
    rw [h2] at h1
    exact Nat.lt_trans hult' h1
  have hutk : val (u.take (j + m + 3)) = val u := take_small (by omega) hutop
  have hG := gs_of (j := j) hud hvd ht4 htv hxv g0 g1 g2 hutk (by rw [hvv]; exact hult') ht0
  rw [hvv] at hG
  have hU0 := hG.u0b
  have hU1 := hG.u1b
  have hU2 := hG.u2b
  have htb := hG.tb
  have gu0 : (u32s u)[0 + ((j + m + 2 : Nat) : Int).toNat * 1]? = some (D.int .u32 U0) := by rw [Int.toNat_natCast, Nat.zero_add, Nat.mul_one, u32s_get, g0]; rfl
  have gu1 : (u32s u)[0 + ((j + m + 1 : Nat) : Int).toNat * 1]? = some (D.int .u32 U1) := by rw [Int.toNat_natCast, Nat.zero_add, Nat.mul_one, u32s_get, g1]; rfl
  have e1 := shl32 hU0
  have e2 := or_w hU0 hU1
  have hj2 : IntKind.i64.wrap ((j : Int) + (m + 2 : Nat)) = (j + m + 2 : Nat) := by rw [w64] <;> omega
  have hj1 : IntKind.i64.wrap (IntKind.i64.wrap ((j : Int) + (m + 2 : Nat)) - 1) = (j + m + 1 : Nat) := by rw [hj2, w64] <;> omega
  obtain ⟨N, hN⟩ : ∃ N, N = U0 * 4294967296 + U1 := ⟨_, rfl⟩
  have hN64 : N < 18446744073709551616 := by omega
  rw [← hN] at e2
  have hdv := div64_fn N t ht0 hN64 (by omega)
  have hgN : N / t * t + N % t = N := by rw [Nat.mul_comm]; exact Nat.div_add_mod _ _
  have hrt : N % t < t := Nat.mod_lt _ ht0
  obtain ⟨gg, hgg⟩ : ∃ gg, gg = N / t := ⟨_, rfl⟩
  obtain ⟨rr, hrr⟩ : ∃ rr, rr = N % t := ⟨_, rfl⟩
  rw [← hgg, ← hrr] at hdv hgN
  rw [← hrr] at hrt
  refine awp_block ?_
  unfold longSt
  refine awp_sx prog_ok hP hnt [(97, .int .i64 (j + m + 2 : Nat)), (100, .int .u64 U0), (101, .int .u64 (U0 * 4294967296 : Nat)), (106, .int .i64 (j + m + 1 : Nat)), (109, .int .u64 U1), (110, .int .u64 N)] [.val (.tup [.d (.int .u64 gg), .d (.int .u64 rr)])] [some [.int .u32 U0], some [.int .u32 U1]] [4, 6, 10, 11, 12, 13, 14, 15, 16, 17] (by kernel_rfl) (G := fun K => IntKind.i64.wrap ((↑j : Int) + (↑(m + 2) : Int)) = (↑(j + m + 2) : Int) ∧ ((0 : Int) ≤ (↑(j + m + 2) : Int) ∧ (↑(j + m + 2) : Int) < (↑(k0 + (m + 2)) : Int)) ∧ (u32s u)[0 + (↑(j + m + 2) : Int).toNat * 1]? = some (D.int IntKind.u32 (↑U0 : Int)) ∧ IntKind.u64.wrap (↑U0 : Int) = (↑U0 : Int) ∧ (0 : Int) ≤ (32 : Int) ∧ IntKind.u64.wrap ((↑U0 : Int) * (2 : Int) ^ min (Int.toNat (32 : Int)) IntKind.u64.bits) = (↑(U0 * 4294967296) : Int) ∧ IntKind.i64.wrap (IntKind.i64.wrap ((↑j : Int) + (↑(m + 2) : Int)) - (1 : Int)) = (↑(j + m + 1) : Int) ∧ ((0 : Int) ≤ (↑(j + m + 1) : Int) ∧ (↑(j + m + 1) : Int) < (↑(k0 + (m + 2)) : Int)) ∧ (u32s u)[0 + (↑(j + m + 1) : Int).toNat * 1]? = some (D.int IntKind.u32 (↑U1 : Int)) ∧ IntKind.u64.wrap (↑U1 : Int) = (↑U1 : Int) ∧ IntKind.u64.wrap (↑(BitVec.ofInt IntKind.u64.bits (↑(U0 * 4294967296) : Int) ||| BitVec.ofInt IntKind.u64.bits (↑U1 : Int)).toNat : Int) = (↑N : Int) ∧ Fn Try.prog 249 [Abs.V.d (D.int IntKind.u64 (0 : Int)), Abs.V.d (D.int IntKind.u64 (↑N : Int)), Abs.V.d (D.int IntKind.u64 (↑t : Int))] [] (Abs.V.tup [Abs.V.d (D.int IntKind.u64 (↑gg : Int)), Abs.V.d (D.int IntKind.u64 (↑rr : Int))]) [] ∧ K (St.mk [(4, Abs.V.own 1 0 k0 1), (6, Abs.V.d (D.int IntKind.i64 (↑(m + 2) : Int))), (10, Abs.V.d (D.int IntKind.i64 (↑s : Int))), (11, Abs.V.d (du v)), (12, Abs.V.own 0 0 (k0 + (m + 2)) 1), (13, Abs.V.d (D.int IntKind.u64 (↑t : Int))), (14, Abs.V.d (D.int IntKind.u64 (↑x : Int))), (15, Abs.V.d (D.int IntKind.i64 (↑j : Int))), (16, Abs.V.d (D.int IntKind.u64 (↑gg : Int))), (17, Abs.V.d (D.int IntKind.u64 (↑rr : Int)))] [(0, some (Blk.mk (u32s u) true)), (1, some (Blk.mk (u32s q) true))] 26)) (fun K => by kernel_rfl) ?_
  refine ⟨hj2, ⟨by omega, by omega⟩, gu0, u64w (by omega) (by omega), by omega, e1, hj1, ⟨by omega, by omega⟩, gu1, u64w (by omega) (by omega), e2, hdv, ?_⟩
  refine awp_cut (ι := Nat) (fun g => longSt m k0 s v u q t x j [(16, .d (.int .u64 g))]) (fun g => g < 4294967296 ∧ val u < (g + 1) * V * 4294967296 ^ j ∧ g * V * 4294967296 ^ j < val u + V * 4294967296 ^ j)
    (awp_weak [(0, 0), (1, 1)] (longSt m k0 s v u q t x j [(16, .d (.int .u64 gg)), (17, .d (.int .u64 rr))]) ?_ (guess_loop hP hnt hl hG hjk hul hmk g2 (hN ▸ hgN) hrt)) ?_
  · unfold longSt
    (constructor <;> simp [hl, envOk, memOk, conv, St.get, St.blk])
  intro g ⟨hg32, hgU, hgU2⟩
  unfold longSt
  refine awp_sx prog_ok hP hnt [] [] [] [4, 6, 10, 11, 12, 13, 14, 15, 16, 18, 19] (by kernel_rfl) (G := fun K => K (St.mk [(4, Abs.V.own 1 0 k0 1), (6, Abs.V.d (D.int IntKind.i64 (↑(m + 2) : Int))), (10, Abs.V.d (D.int IntKind.i64 (↑s : Int))), (11, Abs.V.d (du v)), (12, Abs.V.own 0 0 (k0 + (m + 2)) 1), (13, Abs.V.d (D.int IntKind.u64 (↑t : Int))), (14, Abs.V.d (D.int IntKind.u64 (↑x : Int))), (15, Abs.V.d (D.int IntKind.i64 (↑j : Int))), (16, Abs.V.d (D.int IntKind.u64 (↑g : Int))), (18, Abs.V.d (D.int IntKind.u64 (0 : Int))), (19, Abs.V.d (D.int IntKind.u64 (0 : Int)))] [(0, some (Blk.mk (u32s u) true)), (1, some (Blk.mk (u32s q) true))] 4)) (fun K => by kernel_rfl) ?_
  refine awp_cut (ι := List Nat × Nat × Nat) (fun z => longSt m k0 s v z.1 q t x j [(16, .d (.int .u64 g)), (18, .d (.int .u64 z.2.1)), (19, .d (.int .u64 z.2.2))]) (fun z => z.1.length = u.length ∧ Dg z.1 ∧ z.1.drop (j + (m + 2)) = u.drop (j + (m + 2)) ∧ z.2.1 < 4294967296 ∧ z.2.2 ≤ 1 ∧
        val (z.1.take (j + (m + 2))) + 4294967296 ^ j * (g * val v) = val (u.take (j + (m + 2))) + 4294967296 ^ (j + (m + 2)) * (z.2.1 + z.2.2))
    (awp_weak [(0, 0), (1, 1)] (longSt m k0 s v u q t x j [(16, .d (.int .u64 g)), (18, .d (.int .u64 (0 : Nat))), (19, .d (.int .u64 (0 : Nat)))]) ?_ (sub_loop hP hnt hl hud hvd hjk hul ht4 hmk hg32)) ?_
  · unfold longSt
    (constructor <;> simp [hl, envOk, memOk, conv, St.get, St.blk])
  rintro ⟨o, c, w⟩ ⟨ho1, ho2, ho3, ho4, ho5, ho6⟩
  unfold longSt
  obtain ⟨n, hn⟩ : ∃ n, n = j + (m + 2) := ⟨_, rfl⟩
  simp only at ho1 ho2 ho3 ho4 ho5 ho6
  have hjn : IntKind.i64.wrap ((j : Int) + (m + 2 : Nat)) = (n : Nat) := by rw [w64] <;> omega
  have hgn : u[n]? = some U0 := by rw [hn, ← Nat.add_assoc]; exact g0
  rw [← hn] at ho3 ho6
  have hon : o[n]? = some U0 := by rw [get_drop_eq ho3 (Nat.le_refl _)]; exact hgn
  have hvo : val o + 4294967296 ^ j * (g * V) = val u + 4294967296 ^ n * (c + w) := by
    have h1 := val_split (l := o) (n := n) (by omega)
    have h2 := val_split (l := u) (n := n) (by omega)
    rw [hvv] at ho6
    rw [h1, h2, ho3]
    omega
  obtain ⟨d, f, hd1, hf1, hf2, hd2, hd3⟩ := sub_word hU0 ho5 ho4 rfl
  have hT : IntKind.u64.wrap (IntKind.u64.wrap ((U0 : Int) - w) - c) = ((U0 : Int) - w - c) % 18446744073709551616 := by
    rw [IntKind.wrap_u64, IntKind.wrap_u64]; omega
  obtain ⟨T, hT0⟩ : ∃ T : Nat, (T : Int) = ((U0 : Int) - w - c) % 18446744073709551616 := ⟨(((U0 : Int) - w - c) % 18446744073709551616).toNat, by omega⟩
  rw [← hT0] at hT hd1 hf1
  have hso := val_set_at hon d
  have hso2 : val (o.set n d) + 4294967296 ^ j * (g * V) = val u + 4294967296 ^ (n + 1) * f := by
    rw [Nat.pow_succ]
    generalize 4294967296 ^ n = C at *
    generalize 4294967296 ^ j = E at *
    have : C * (d + w + c) = C * (U0 + 4294967296 * f) := by rw [hd3]
    grind
  have hutop' : val u < 4294967296 ^ (n + 1) := by rw [hn, show j + (m + 2) + 1 = j + m + 3 by omega]; exact hutop
  have hdo : (o.set n d).drop (n + 1) = u.drop (n + 1) := by
    rw [drop_set_lt (by omega), ← List.drop_drop, ho3, List.drop_drop]
  have ho1d := dg_set (i := n) ho2 hd2
  have hqj : q[j]? = some 0 := by
    have : (q.take (j + 1))[j]? = some 0 := by rw [hq0]; simp
    rwa [List.getElem?_take, if_pos (by omega)] at this
  have hsh : (T : Int).fdiv (2 ^ (min (Int.toNat 63) IntKind.u64.bits)) = (f : Int) := by
    show (T : Int).fdiv (2 ^ 63) = _
    rw [fdivN]; omega
  have hqt : q.take j = List.replicate j 0 := by
    have := congrArg (List.take j) hq0
    rwa [List.take_take, List.take_replicate, show min j (j + 1) = j by omega] at this
  refine awp_sx prog_ok hP hnt [(181, .int .i64 n), (184, .int .u64 U0), (188, .int .u64 T)] [] [some [.int .u32 U0]] [4, 6, 10, 11, 12, 13, 14, 15, 16, 24] (by kernel_rfl) (G := fun K => IntKind.i64.wrap ((↑j : Int) + (↑(m + 2) : Int)) = (↑n : Int) ∧ ((0 : Int) ≤ (↑n : Int) ∧ (↑n : Int) < (↑(k0 + (m + 2)) : Int)) ∧ (u32s o)[0 + (↑n : Int).toNat * 1]? = some (D.int IntKind.u32 (↑U0 : Int)) ∧ IntKind.u64.wrap (↑U0 : Int) = (↑U0 : Int) ∧ IntKind.u64.wrap (IntKind.u64.wrap ((↑U0 : Int) - (↑(c, w).snd : Int)) - (↑(c, w).fst : Int)) = (↑T : Int) ∧ K (St.mk [(4, Abs.V.own 1 0 k0 1), (6, Abs.V.d (D.int IntKind.i64 (↑(m + 2) : Int))), (10, Abs.V.d (D.int IntKind.i64 (↑s : Int))), (11, Abs.V.d (du v)), (12, Abs.V.own 0 0 (k0 + (m + 2)) 1), (13, Abs.V.d (D.int IntKind.u64 (↑t : Int))), (14, Abs.V.d (D.int IntKind.u64 (↑x : Int))), (15, Abs.V.d (D.int IntKind.i64 (↑j : Int))), (16, Abs.V.d (D.int IntKind.u64 (↑g : Int))), (24, Abs.V.d (D.int IntKind.u64 (↑T : Int)))] [(0, some (Blk.mk (u32s o) true)), (1, some (Blk.mk (u32s q) true))] 14)) (fun K => by kernel_rfl) ?_
  refine ⟨hjn, ⟨by omega, by omega⟩, by rw [Int.toNat_natCast, Nat.zero_add, Nat.mul_one, u32s_get, hon]; rfl, u64w (by omega) (by omega), hT, ?_⟩
  refine awp_sx prog_ok hP hnt [(192, .int .i64 n), (194, .int .u32 d)] [] [] [4, 6, 10, 11, 12, 13, 14, 15, 16, 24] (by kernel_rfl) (G := fun K => IntKind.i64.wrap ((↑j : Int) + (↑(m + 2) : Int)) = (↑n : Int) ∧ IntKind.u32.wrap (↑T : Int) = (↑d : Int) ∧ ((0 : Int) ≤ (↑n : Int) ∧ (↑n : Int) < (↑(k0 + (m + 2)) : Int)) ∧ 0 + (↑n : Int).toNat * 1 + [D.int IntKind.u32 (↑d : Int)].length ≤ (u32s o).length ∧ K (St.mk [(4, Abs.V.own 1 0 k0 1), (6, Abs.V.d (D.int IntKind.i64 (↑(m + 2) : Int))), (10, Abs.V.d (D.int IntKind.i64 (↑s : Int))), (11, Abs.V.d (du v)), (12, Abs.V.own 0 0 (k0 + (m + 2)) 1), (13, Abs.V.d (D.int IntKind.u64 (↑t : Int))), (14, Abs.V.d (D.int IntKind.u64 (↑x : Int))), (15, Abs.V.d (D.int IntKind.i64 (↑j : Int))), (16, Abs.V.d (D.int IntKind.u64 (↑g : Int))), (24, Abs.V.d (D.int IntKind.u64 (↑T : Int)))] [(0, some (Blk.mk (setCells (u32s o) (0 + (↑n : Int).toNat * 1) [D.int IntKind.u32 (↑d : Int)]) true)), (1, some (Blk.mk (u32s q) true))] 22)) (fun K => by kernel_rfl) ?_
  refine ⟨hjn, by rw [IntKind.wrap_u32]; omega, ⟨by omega, by omega⟩, by simp; omega, ?_⟩
  rw [Int.toNat_natCast, Nat.zero_add, Nat.mul_one, setCells_u32]
  refine awp_sx prog_ok hP hnt [(199, .int .u32 g)] [] [] [4, 6, 10, 11, 12, 13, 14, 15, 24] (by kernel_rfl) (G := fun K => IntKind.u32.wrap (↑g : Int) = (↑g : Int) ∧ ((0 : Int) ≤ (↑j : Int) ∧ (↑j : Int) < (↑k0 : Int)) ∧ 0 + (↑j : Int).toNat * 1 + [D.int IntKind.u32 (↑g : Int)].length ≤ (u32s q).length ∧ K (St.mk [(4, Abs.V.own 1 0 k0 1), (6, Abs.V.d (D.int IntKind.i64 (↑(m + 2) : Int))), (10, Abs.V.d (D.int IntKind.i64 (↑s : Int))), (11, Abs.V.d (du v)), (12, Abs.V.own 0 0 (k0 + (m + 2)) 1), (13, Abs.V.d (D.int IntKind.u64 (↑t : Int))), (14, Abs.V.d (D.int IntKind.u64 (↑x : Int))), (15, Abs.V.d (D.int IntKind.i64 (↑j : Int))), (24, Abs.V.d (D.int IntKind.u64 (↑T : Int)))] [(0, some (Blk.mk (u32s (o.set n d)) true)), (1, some (Blk.mk (setCells (u32s q) (0 + (↑j : Int).toNat * 1) [D.int IntKind.u32 (↑g : Int)]) true))] 28)) (fun K => by kernel_rfl) ?_
  refine ⟨u32w (by omega) (by omega), ⟨by omega, by omega⟩, by simp; omega, ?_⟩
  rw [Int.toNat_natCast, Nat.zero_add, Nat.mul_one, setCells_u32]
  refine awp_seq_k fun K hK => ?_
  refine awp_sx prog_ok hP hnt [(202, .int .u64 f)] [] [] [4, 6, 10, 11, 12, 13, 14, 15, 203] (by kernel_rfl) (G := fun K => (0 : Int) ≤ (63 : Int) ∧ (↑T : Int).fdiv ((2 : Int) ^ min (Int.toNat (63 : Int)) IntKind.u64.bits) = (↑f : Int) ∧ K (St.mk [(4, Abs.V.own 1 0 k0 1), (6, Abs.V.d (D.int IntKind.i64 (↑(m + 2) : Int))), (10, Abs.V.d (D.int IntKind.i64 (↑s : Int))), (11, Abs.V.d (du v)), (12, Abs.V.own 0 0 (k0 + (m + 2)) 1), (13, Abs.V.d (D.int IntKind.u64 (↑t : Int))), (14, Abs.V.d (D.int IntKind.u64 (↑x : Int))), (15, Abs.V.d (D.int IntKind.i64 (↑j : Int))), (203, Abs.V.d (D.bool ((↑f : Int) == (0 : Int))))] [(0, some (Blk.mk (u32s (o.set n d)) true)), (1, some (Blk.mk (u32s (q.set j g)) true))] 31)) (fun K => by kernel_rfl) ?_
  refine ⟨by omega, hsh, awp_cond rfl (fun e => awp_exit ⟨(o.set n d, q.set j g), [(0, 0), (1, 1)], ?_, ?_⟩) (fun e => awp_skip (hK _ ?_))⟩
  · simp at e
    have hf0 : f = 0 := by omega
    subst hf0
    rw [Nat.mul_zero, Nat.add_zero] at hso2
    have hsq := val_set_at hqj g
    rw [Nat.mul_zero, Nat.add_zero] at hsq
    refine ⟨by simp [ho1, hul], ho1d, by simp [hql], dg_set hqd hg32, by rw [take_set_le _ (Nat.le_refl _)]; exact hqt, ?_, ?_⟩
    · rw [hAv, hsq, ← hso2]
      show _ = (val q + 4294967296 ^ j * g) * V + val (o.set n d)
      generalize 4294967296 ^ j = E
      grind
    · show val (o.set n d) < V * 4294967296 ^ j
      generalize 4294967296 ^ j = E at *
      have h1 : (g + 1) * V * E = E * (g * V) + V * E := by grind
      omega
  · (constructor <;> simp [hl, envOk, memOk, conv, St.get, St.blk])
  simp at e
  have hf1' : f = 1 := by omega
  subst hf1'
  rw [Nat.mul_one] at hso2
  have hlt1 : val (o.set n d) < 4294967296 ^ (n + 1) := val_lt_of_drop ho1d hud (by simp; omega) hdo hutop'
  have hg1 : 1 ≤ g := by
    rcases Nat.eq_zero_or_pos g with h | h
    · exfalso
      subst h
      rw [Nat.zero_mul, Nat.mul_zero, Nat.add_zero] at hso2
      omega
    · exact h
  have hq1l : (q.set j g).length = k0 := by simp [hql]
  have hgq : (q.set j g)[j]? = some g := by rw [List.getElem?_set_self]; omega
  have ho1l : (o.set n d).length = k0 + (m + 2) := by simp [ho1, hul]
  obtain ⟨o1, hO1⟩ : ∃ o1, o1 = o.set n d := ⟨_, rfl⟩
  have hO1n : o1[n]? = some d := by rw [hO1, List.getElem?_set_self]; omega
  rw [← hO1] at hso2 hdo ho1d hlt1 ho1l ⊢
  refine awp_sx prog_ok hP hnt [(208, .int .u32 (g - 1 : Nat))] [] [some [.int .u32 g]] [4, 6, 10, 11, 12, 13, 14, 15] (by kernel_rfl) (G := fun K => ((0 : Int) ≤ (↑j : Int) ∧ (↑j : Int) < (↑k0 : Int)) ∧ (u32s (q.set j g))[0 + (↑j : Int).toNat * 1]? = some (D.int IntKind.u32 (↑g : Int)) ∧ IntKind.u32.wrap ((↑g : Int) - (1 : Int)) = (↑(g - 1) : Int) ∧ ((0 : Int) ≤ (↑j : Int) ∧ (↑j : Int) < (↑k0 : Int)) ∧ 0 + (↑j : Int).toNat * 1 + [D.int IntKind.u32 (↑(g - 1) : Int)].length ≤ (u32s (q.set j g)).length ∧ K (St.mk [(4, Abs.V.own 1 0 k0 1), (6, Abs.V.d (D.int IntKind.i64 (↑(m + 2) : Int))), (10, Abs.V.d (D.int IntKind.i64 (↑s : Int))), (11, Abs.V.d (du v)), (12, Abs.V.own 0 0 (k0 + (m + 2)) 1), (13, Abs.V.d (D.int IntKind.u64 (↑t : Int))), (14, Abs.V.d (D.int IntKind.u64 (↑x : Int))), (15, Abs.V.d (D.int IntKind.i64 (↑j : Int)))] [(0, some (Blk.mk (u32s o1) true)), (1, some (Blk.mk (setCells (u32s (q.set j g)) (0 + (↑j : Int).toNat * 1) [D.int IntKind.u32 (↑(g - 1) : Int)]) true))] 38)) (fun K => by kernel_rfl) ?_
  refine ⟨⟨by omega, by omega⟩, by rw [Int.toNat_natCast, Nat.zero_add, Nat.mul_one, u32s_get, hgq]; rfl, by rw [IntKind.wrap_u32]; omega, ⟨by omega, by omega⟩, by simp; omega, ?_⟩
  rw [Int.toNat_natCast, Nat.zero_add, Nat.mul_one, setCells_u32, List.set_set]
  refine awp_sx prog_ok hP hnt [] [] [] [4, 6, 10, 11, 12, 13, 14, 15, 25] (by kernel_rfl) (G := fun K => K (St.mk [(4, Abs.V.own 1 0 k0 1), (6, Abs.V.d (D.int IntKind.i64 (↑(m + 2) : Int))), (10, Abs.V.d (D.int IntKind.i64 (↑s : Int))), (11, Abs.V.d (du v)), (12, Abs.V.own 0 0 (k0 + (m + 2)) 1), (13, Abs.V.d (D.int IntKind.u64 (↑t : Int))), (14, Abs.V.d (D.int IntKind.u64 (↑x : Int))), (15, Abs.V.d (D.int IntKind.i64 (↑j : Int))), (25, Abs.V.d (D.int IntKind.u32 (0 : Int)))] [(0, some (Blk.mk (u32s o1) true)), (1, some (Blk.mk (u32s (q.set j (g - 1))) true))] 39)) (fun K => by kernel_rfl) ?_
  refine awp_cut (ι := List Nat × Nat) (fun z => longSt m k0 s v z.1 (q.set j (g - 1)) t x j [(25, .d (.int .u32 z.2))]) (fun z => z.1.length = o1.length ∧ Dg z.1 ∧ z.1.drop (j + (m + 2)) = o1.drop (j + (m + 2)) ∧ z.2 ≤ 1 ∧
        val (z.1.take (j + (m + 2))) + 4294967296 ^ (j + (m + 2)) * z.2 = val (o1.take (j + (m + 2))) + 4294967296 ^ j * val v)
    (awp_weak [(0, 0), (1, 1)] (longSt m k0 s v o1 (q.set j (g - 1)) t x j [(25, .d (.int .u32 (0 : Nat)))]) ?_ (back_loop hP hnt hl ho1d hvd hjk ho1l ht4 hmk)) ?_
  · unfold longSt
    (constructor <;> simp [hl, envOk, memOk, conv, St.get, St.blk])
  rintro ⟨o2, c2⟩ ⟨b1, b2, b3, b4, b5⟩
  simp only at b1 b2 b3 b4 b5
  rw [← hn] at b3 b5
  have ho2n : o2[n]? = some d := by rw [get_drop_eq b3 (Nat.le_refl _)]; exact hO1n
  have hv2 : val o2 + 4294967296 ^ n * c2 = val o1 + 4294967296 ^ j * V := by
    have h1 := val_split (l := o2) (n := n) (by omega)
    have h2 := val_split (l := o1) (n := n) (by omega)
    rw [hvv] at b5
    rw [h1, h2, b3]
    omega
  obtain ⟨d2, hd2'⟩ : ∃ d2, d2 = (d + c2) % 4294967296 := ⟨_, rfl⟩
  obtain ⟨f2, hf2'⟩ : ∃ f2, f2 = (d + c2) / 4294967296 := ⟨_, rfl⟩
  have hdf : d + c2 = d2 + 4294967296 * f2 := by omega
  have hf21 : f2 ≤ 1 := by omega
  have hd232 : d2 < 4294967296 := by omega
  have hso3 := val_set_at ho2n d2
  have hso4 : val (o2.set n d2) + 4294967296 ^ (n + 1) * f2 = val o1 + 4294967296 ^ j * V := by
    rw [Nat.pow_succ]
    generalize 4294967296 ^ n = C at *
    generalize 4294967296 ^ j = E at *
    have : C * (d + c2) = C * (d2 + 4294967296 * f2) := by rw [hdf]
    grind
  have ho3d := dg_set (i := n) b2 hd232
  have hdo2 : (o2.set n d2).drop (n + 1) = u.drop (n + 1) := by
    rw [drop_set_lt (by omega), ← List.drop_drop, b3, List.drop_drop, hdo]
  have hlt3 : val (o2.set n d2) < 4294967296 ^ (n + 1) := val_lt_of_drop ho3d hud (by simp; omega) hdo2 hutop'
  unfold longSt
  refine awp_x prog_ok hP hnt [(238, .int .i64 n), (242, .int .u32 d2)] [] [some [.int .u32 d]] [4, 6, 10, 11, 12, 13, 14, 15] (by kernel_rfl) (G := fun K => IntKind.i64.wrap ((↑j : Int) + (↑(m + 2) : Int)) = (↑n : Int) ∧ ((0 : Int) ≤ (↑n : Int) ∧ (↑n : Int) < (↑(k0 + (m + 2)) : Int)) ∧ (u32s o2)[0 + (↑n : Int).toNat * 1]? = some (D.int IntKind.u32 (↑d : Int)) ∧ IntKind.u32.wrap ((↑d : Int) + (↑c2 : Int)) = (↑d2 : Int) ∧ ((0 : Int) ≤ (↑n : Int) ∧ (↑n : Int) < (↑(k0 + (m + 2)) : Int)) ∧ 0 + (↑n : Int).toNat * 1 + [D.int IntKind.u32 (↑d2 : Int)].length ≤ (u32s o2).length ∧ K (St.mk [(4, Abs.V.own 1 0 k0 1), (6, Abs.V.d (D.int IntKind.i64 (↑(m + 2) : Int))), (10, Abs.V.d (D.int IntKind.i64 (↑s : Int))), (11, Abs.V.d (du v)), (12, Abs.V.own 0 0 (k0 + (m + 2)) 1), (13, Abs.V.d (D.int IntKind.u64 (↑t : Int))), (14, Abs.V.d (D.int IntKind.u64 (↑x : Int))), (15, Abs.V.d (D.int IntKind.i64 (↑j : Int)))] [(0, some (Blk.mk (setCells (u32s o2) (0 + (↑n : Int).toNat * 1) [D.int IntKind.u32 (↑d2 : Int)]) true)), (1, some (Blk.mk (u32s (q.set j (g - 1))) true))] 12)) (fun K => by kernel_rfl) ?_
  refine ⟨hjn, ⟨by omega, by omega⟩, by rw [Int.toNat_natCast, Nat.zero_add, Nat.mul_one, u32s_get, ho2n]; rfl, by rw [IntKind.wrap_u32]; omega, ⟨by omega, by omega⟩, by simp; omega, ?_⟩
  rw [Int.toNat_natCast, Nat.zero_add, Nat.mul_one, setCells_u32]
  refine ⟨(o2.set n d2, q.set j (g - 1)), [(0, 0), (1, 1)], ?_, ?_⟩
  · have hsq := val_set_at hqj (g - 1)
    rw [Nat.mul_zero, Nat.add_zero] at hsq
    have key : val (o2.set n d2) + 4294967296 ^ j * ((g - 1) * V) = val u := by
      have h1 : 4294967296 ^ j * (g * V) = 4294967296 ^ j * ((g - 1) * V) + 4294967296 ^ j * V := by
        obtain ⟨g', rfl⟩ : ∃ g', g = g' + 1 := ⟨g - 1, by omega⟩
        rw [Nat.add_sub_cancel]
        generalize 4294967296 ^ j = E
        grind
      have h2 : g * V * 4294967296 ^ j = 4294967296 ^ j * (g * V) := Nat.mul_comm _ _
      have h3 : V * 4294967296 ^ j = 4294967296 ^ j * V := Nat.mul_comm _ _
      obtain ⟨C, hC⟩ : ∃ C, C = 4294967296 ^ (n + 1) := ⟨_, rfl⟩
      obtain ⟨X, hX⟩ : ∃ X, X = 4294967296 ^ j * ((g - 1) * V) := ⟨_, rfl⟩
      obtain ⟨Y, hY⟩ : ∃ Y, Y = 4294967296 ^ j * V := ⟨_, rfl⟩
      obtain ⟨Z, hZ⟩ : ∃ Z, Z = 4294967296 ^ j * (g * V) := ⟨_, rfl⟩
      rw [← hZ, ← hX, ← hY] at h1
      rw [h2, h3, ← hZ, ← hY] at hgU2
      rw [← hC] at hso4 hso2 hlt3
      rw [← hZ] at hso2
      rw [← hY] at hso4
      rw [← hX]
      have hf : f2 = 1 := by
        rcases Nat.eq_zero_or_pos f2 with h | h
        · subst h; rw [Nat.mul_zero, Nat.add_zero] at hso4; omega
        · omega
      rw [hf, Nat.mul_one] at hso4
      omega
    refine ⟨by simp [b1, ho1l], ho3d, by simp [hql], dg_set hqd (by omega), by rw [take_set_le _ (Nat.le_refl _)]; exact hqt, ?_, ?_⟩
    · rw [hAv, hsq, ← key]
      show _ = (val q + 4294967296 ^ j * (g - 1)) * V + val (o2.set n d2)
      generalize 4294967296 ^ j = E
      grind
    · show val (o2.set n d2) < V * 4294967296 ^ j
      have h4 : g * V * 4294967296 ^ j = 4294967296 ^ j * ((g - 1) * V) + V * 4294967296 ^ j := by
        obtain ⟨g', rfl⟩ : ∃ g', g = g' + 1 := ⟨g - 1, by omega⟩
        rw [Nat.add_sub_cancel]
        generalize 4294967296 ^ j = E
        grind
      have h5 : g * V * 4294967296 ^ j = 4294967296 ^ j * (g * V) := Nat.mul_comm _ _
      obtain ⟨C, hC⟩ : ∃ C, C = 4294967296 ^ (n + 1) := ⟨_, rfl⟩
      obtain ⟨Z, hZ⟩ : ∃ Z, Z = 4294967296 ^ j * (g * V) := ⟨_, rfl⟩
      rw [← hC] at hso2 hlt1
      rw [← hZ] at hso2 h5
      rw [h5] at h4
      omega
  · (constructor <;> simp [hl, envOk, memOk, conv, St.get, St.blk])
end Go.Abs

set_option linter.unusedVariables false
set_option linter.unusedSimpArgs false
namespace Go.Abs
open Go Go.Proofs
set_option maxRecDepth 100000

theorem shl_fn (l : List Nat) (s : Nat) (h : l.length ≤ 2 ^ 39) (hd : Dg l) (hs : s ≤ 16777216) :
    Fn Try.prog 154 [.d (du l), .d (.int .i64 s)] [] (.d (du (dig (val l * 2 ^ s)))) [] := by
  have := (shlO_fn l s h hd hs 0).freeze
  rwa [Nat.mul_one, own_du rfl] at this

/-- the digits of a divisor that is shifted until its top bit is 1 -/
theorem dig_shl {b : Nat} (hb : b ≠ 0) : ∃ t, (dig b)[(dig b).length - 1]? = some t ∧ t < 4294967296 ∧ blen t ≤ 32 ∧ (dig (b * 2 ^ (32 - blen t))).length = (dig b).length := by
  obtain ⟨t, h1, h2, h3, h4⟩ := dig_top hb
  have hp : 0 < (dig b).length := by have := mt dig_len0.1 hb; omega
  have hbl : blen t ≤ 32 := blen_iff.2 h3
  refine ⟨t, h1, h3, hbl, ?_⟩
  have hge := dig_ge (n := b) (k := (dig b).length - 1) (by omega)
  have hlt := blen_lt t
  have hub : b < (t + 1) * 4294967296 ^ ((dig b).length - 1) := by
    have hpw : 0 < 4294967296 ^ ((dig b).length - 1) := Nat.pow_pos (by omega)
    rw [h4]
    exact (Nat.div_lt_iff_lt_mul hpw).1 (Nat.lt_succ_self _)
  apply Nat.le_antisymm
  · refine dig_len ?_
    have e : 4294967296 ^ (dig b).length = 4294967296 ^ ((dig b).length - 1) * (2 ^ blen t * 2 ^ (32 - blen t)) := by
      rw [← Nat.pow_add, show blen t + (32 - blen t) = 32 by omega, show (2 : Nat) ^ 32 = 4294967296 from rfl, ← Nat.pow_succ]
      congr 1; omega
    have h5 : b * 2 ^ (32 - blen t) < (t + 1) * 4294967296 ^ ((dig b).length - 1) * 2 ^ (32 - blen t) := Nat.mul_lt_mul_of_pos_right hub (Nat.pow_pos (by omega))
    have h6 : (t + 1) * 4294967296 ^ ((dig b).length - 1) * 2 ^ (32 - blen t) ≤ 2 ^ blen t * 4294967296 ^ ((dig b).length - 1) * 2 ^ (32 - blen t) :=
      Nat.mul_le_mul_right _ (Nat.mul_le_mul_right _ hlt)
    rw [e]
    have h7 : 2 ^ blen t * 4294967296 ^ ((dig b).length - 1) * 2 ^ (32 - blen t) = 4294967296 ^ ((dig b).length - 1) * (2 ^ blen t * 2 ^ (32 - blen t)) := by
      generalize 4294967296 ^ ((dig b).length - 1) = z
      grind
    omega
  · rcases Nat.lt_or_ge (dig (b * 2 ^ (32 - blen t))).length (dig b).length with h | h
    · exfalso
      have h8 := dig_lt_of_len (n := b * 2 ^ (32 - blen t)) (k := (dig b).length - 1) (by omega)
      have h9 : b * 1 ≤ b * 2 ^ (32 - blen t) := Nat.mul_le_mul_left _ (Nat.pow_pos (by omega))
      omega
    · exact h

set_option maxHeartbeats 2000000 in
theorem long_fn (a b : List Nat) (ha : a.length ≤ 2 ^ 38) (hb : b.length ≤ 2 ^ 38) (da : Dg a) (db : Dg b) (h0 : val b ≠ 0) :
    Fn Try.prog 240 [.d (du a), .d (du b)] [] (.tup [.d (du (dig (val a / val b))), .d (du (dig (val a % val b)))]) [] := by
  refine fn0 (nt := 251) (res := [.tmp 4, .tmp 5]) Try.func240 rfl (by decide) rfl rfl rfl rfl ?_
  intro Cx hP hnt hl
  have hnb := nnorm_fn b (by omega) db
  have hlb := dig_le db
  obtain ⟨B, hB⟩ : ∃ B, B = val b := ⟨_, rfl⟩
  rw [← hB] at hnb hlb h0 ⊢
  have hBd := dig_lt B
  have hBv := val_dig B
  have hcmp := cmp_fn a (dig B) (by omega) (by omega) da hBd
  have hna := nnorm_fn a (by omega) da
  have hla := dig_le da
  rw [hBv] at hcmp
  refine awp_sx prog_ok hP hnt [] [] [] [0, 1] (by kernel_rfl) (G := fun K => K (St.mk [(0, V.d (du a)), (1, V.d (du b))] [] 2)) (fun K => by kernel_rfl) ?_
  refine awp_scope ?_
  refine awp_sx prog_ok hP hnt [] [.val (.d (du (dig B)))] [] [0, 1] (by kernel_rfl) (G := fun K => Fn Try.prog 230 [V.d (du b)] [] (V.d (du (dig B))) [] ∧ K (St.mk [(0, V.d (du a)), (1, V.d (du (dig B)))] [] 5)) (fun K => by kernel_rfl) ?_
  refine ⟨hnb, ?_⟩
  refine awp_seq_k fun K hK => ?_
  refine awp_sx prog_ok hP hnt [] [.val (.d (.int .i64 (cmpI (val a) B)))] [] [0, 1, 33] (by kernel_rfl) (G := fun K => Fn Try.prog 153 [V.d (du a), V.d (du (dig B))] [] (V.d (D.int IntKind.i64 (cmpI (val a) B))) [] ∧ K (St.mk [(0, V.d (du a)), (1, V.d (du (dig B))), (33, V.d (D.bool (decide (cmpI (val a) B < (0 : Int)))))] [] 9)) (fun K => by kernel_rfl) ?_
  refine ⟨hcmp, ?_⟩
  refine awp_cond rfl (fun e => ?_) (fun e => awp_skip (hK _ ?_))
  · have hlt : val a < B := by
      simp only [cmpI] at e
      split at e
      · simp at e
      · split at e
        · assumption
        · simp at e
    refine awp_sx prog_ok hP hnt [] [.val (.d (du (dig (val a))))] [] [4, 5] (by kernel_rfl) (G := fun K => Fn Try.prog 230 [V.d (du a)] [] (V.d (du (dig (val a)))) [] ∧ K (St.mk [(4, V.nil), (5, V.d (du (dig (val a))))] [] 13)) (fun K => by kernel_rfl) ?_
    rw [Nat.div_eq_of_lt hlt, Nat.mod_eq_of_lt hlt, dig_zero]
    exact ⟨hna, awp_ret ⟨.inl rfl, ret2Nil rfl rfl⟩⟩
  have hge : B ≤ val a := by
    rcases Nat.lt_or_ge (val a) B with h | h
    · rw [cmpI_lt h] at e; simp at e
    · exact h
  refine awp_sx prog_ok hP hnt [] [] [] [0, 1, 6] (by kernel_rfl) (G := fun K => K (St.mk [(0, V.d (du a)), (1, V.d (du (dig B))), (6, V.d (D.int IntKind.i64 (↑(dig B).length : Int)))] [] 12)) (fun K => by kernel_rfl) ?_
  refine awp_seq_k fun K hK => ?_
  refine awp_sx prog_ok hP hnt [] [] [] [0, 1, 6, 39] (by kernel_rfl) (G := fun K => K (St.mk [(0, V.d (du a)), (1, V.d (du (dig B))), (6, V.d (D.int IntKind.i64 (↑(dig B).length : Int))), (39, V.d (D.bool ((↑(dig B).length : Int) == (1 : Int))))] [] 14)) (fun K => by kernel_rfl) ?_
  refine awp_cond rfl (fun e => ?_) (fun e => awp_skip (hK _ ?_))
  · simp at e
    have hB1 : B < 4294967296 := dig_lt_of_len (k := 1) (by omega)
    have hdB : dig B = [B] := by rw [dig_pos h0, Nat.mod_eq_of_lt hB1, Nat.div_eq_of_lt hB1, dig_zero]
    rw [hdB]
    have hds := divsmall_fn a B (by omega) da (by omega) hB1
    have hm : val a % B < B := Nat.mod_lt _ (by omega)
    have hof := of_fn (val a % B) (by omega)
    refine awp_sx prog_ok hP hnt [] [.val (.tup [.d (du (dig (val a / B))), .d (.int .u32 (val a % B : Nat)), .d (.bool true)])] [some [.int .u32 B]] [7, 8] (by kernel_rfl) (G := fun K => ((0 : Int) ≤ (0 : Int) ∧ (0 : Int) < (↑[B].length : Int) ∧ 1 ≤ (u32s [B]).length) ∧ (List.drop 0 (u32s [B]))[0]? = some (D.int IntKind.u32 (↑B : Int)) ∧ Fn Try.prog 247 [V.d (du a), V.d (D.int IntKind.u32 (↑B : Int))] [] (V.tup [V.d (du (dig (val a / B))), V.d (D.int IntKind.u32 (↑(val a % B) : Int)), V.d (D.bool true)]) [] ∧ K (St.mk [(7, V.d (du (dig (val a / B)))), (8, V.d (D.int IntKind.u32 (↑(val a % B) : Int)))] [] 26)) (fun K => by kernel_rfl) ?_
    refine ⟨⟨by omega, by simp, by simp⟩, by rfl, hds, ?_⟩
    refine awp_sx prog_ok hP hnt [(51, .int .u64 (val a % B : Nat))] [.val (.d (du (dig (val a % B))))] [] [4, 5] (by kernel_rfl) (G := fun K => IntKind.u64.wrap (↑(val a % B) : Int) = (↑(val a % B) : Int) ∧ Fn Try.prog 155 [V.d (D.int IntKind.u64 (↑(val a % B) : Int))] [] (V.d (du (dig (val a % B)))) [] ∧ K (St.mk [(4, V.d (du (dig (val a / B)))), (5, V.d (du (dig (val a % B))))] [] 32)) (fun K => by kernel_rfl) ?_
    exact ⟨u64w (by omega) (by omega), hof, awp_ret ⟨.inl rfl, ret2 rfl rfl⟩⟩
  simp at e
  have hn2 : 2 ≤ (dig B).length := by have := mt dig_len0.1 h0; omega
  obtain ⟨td, ht1, ht2, ht3, ht4⟩ := dig_shl h0
  have hlz := lz32_fn td ht2
  obtain ⟨s, hs⟩ : ∃ s, s = 32 - blen td := ⟨_, rfl⟩
  rw [← hs] at ht4 hlz
  have hs32 : s ≤ 32 := by omega
  have hsv := shl_fn (dig B) s (by omega) hBd (by omega)
  have hsu := shlO_fn a s (by omega) da (by omega)
  have hU0 : (dig (val a * 2 ^ s)).length ≤ a.length + 1 := dig_len (by
    have h1 := val_lt da
    have h2 : 2 ^ s ≤ 4294967296 := by
      have := Nat.pow_le_pow_right (n := 2) (show 0 < 2 by omega) hs32
      omega
    rw [Nat.pow_succ]
    have h3 := Nat.mul_le_mul (Nat.le_of_lt h1) h2
    have h4 := Nat.mul_lt_mul_of_pos_right h1 (show 0 < 2 ^ s from Nat.pow_pos (by omega))
    have h5 := Nat.mul_le_mul_left (4294967296 ^ a.length) h2
    omega)
  have hVle : B * 2 ^ s ≤ val a * 2 ^ s := Nat.mul_le_mul_right _ hge
  rw [hBv] at hsv
  obtain ⟨V, hV⟩ : ∃ V, V = B * 2 ^ s := ⟨_, rfl⟩
  obtain ⟨A, hA⟩ : ∃ A, A = val a * 2 ^ s := ⟨_, rfl⟩
  rw [← hV] at hsv ht4 hVle
  rw [← hA] at hsu hU0 hVle
  have hLn : (dig V).length ≤ (dig A).length := dig_len (Nat.lt_of_le_of_lt hVle (by
    have := val_lt (dig_lt A); rwa [val_dig] at this))
  obtain ⟨v, hv⟩ : ∃ v, v = dig V := ⟨_, rfl⟩
  have hvd : Dg v := hv ▸ dig_lt V
  have hvv : val v = V := hv ▸ val_dig V
  obtain ⟨n, hn⟩ : ∃ n, n = (dig B).length := ⟨_, rfl⟩
  rw [← hv] at hsv ht4 hLn
  rw [← hn] at hn2 ht1 ht4 hlb ⊢
  refine awp_sx prog_ok hP hnt [(55, .int .i64 (n - 1 : Nat))] [.val (.d (.int .i64 s))] [some [.int .u32 td]] [0, 1, 6, 10] (by kernel_rfl) (G := fun K => IntKind.i64.wrap ((↑n : Int) - (1 : Int)) = (↑(n - 1) : Int) ∧ ((0 : Int) ≤ (↑(n - 1) : Int) ∧ (↑(n - 1) : Int) < (↑(dig B).length : Int) ∧ ((↑(n - 1) : Int).toNat + 1) * 1 ≤ (u32s (dig B)).length) ∧ (List.drop ((↑(n - 1) : Int).toNat * 1) (u32s (dig B)))[0]? = some (D.int IntKind.u32 (↑td : Int)) ∧ Fn Try.prog 248 [Abs.V.d (D.int IntKind.u32 (↑td : Int))] [] (Abs.V.d (D.int IntKind.i64 (↑s : Int))) [] ∧ K (St.mk [(0, Abs.V.d (du a)), (1, Abs.V.d (du (dig B))), (6, Abs.V.d (D.int IntKind.i64 (↑n : Int))), (10, Abs.V.d (D.int IntKind.i64 (↑s : Int)))] [] 21)) (fun K => by kernel_rfl) ?_
  refine ⟨by rw [w64] <;> omega, ⟨by omega, by omega, by simp; omega⟩, ?_, hlz, ?_⟩
  · rw [Nat.mul_one, Int.toNat_natCast, List.getElem?_drop, Nat.add_zero, u32s_get, ht1]; rfl
  refine awp_sx prog_ok hP hnt [] [.val (.d (du v))] [] [0, 6, 10, 11] (by kernel_rfl) (G := fun K => Fn Try.prog 154 [Abs.V.d (du (dig B)), Abs.V.d (D.int IntKind.i64 (↑s : Int))] [] (Abs.V.d (du v)) [] ∧ K (St.mk [(0, Abs.V.d (du a)), (6, Abs.V.d (D.int IntKind.i64 (↑n : Int))), (10, Abs.V.d (D.int IntKind.i64 (↑s : Int))), (11, Abs.V.d (du v))] [] 25)) (fun K => by kernel_rfl) ?_
  refine ⟨hsv, ?_⟩
  refine awp_sx prog_ok hP hnt [] [.own (dig A).length 1 (u32s (dig A))] [] [6, 10, 11, 12] (by kernel_rfl) (G := fun K => Fn Try.prog 154 [Abs.V.d (du a), Abs.V.d (D.int IntKind.i64 (↑s : Int))] [] (Abs.V.own 27 0 (dig A).length 1) [(27, Blk.mk (u32s (dig A)) true)] ∧ 1 = 1 ∧ ((u32s (dig A)).length = (dig A).length * 1 ∧ ((dig A).length + 1) * 4 ≤ 2 ^ 47) ∧ K (St.mk [(6, Abs.V.d (D.int IntKind.i64 (↑n : Int))), (10, Abs.V.d (D.int IntKind.i64 (↑s : Int))), (11, Abs.V.d (du v)), (12, Abs.V.own 29 0 ((dig A).length + 1) 1)] [(27, none), (29, some (Blk.mk (u32s (dig A) ++ setCells (zeros 1 (TI.mk (Kind.int IntKind.u32) 1 4 [D.int IntKind.u32 (0 : Int)]).zero) 0 [D.int IntKind.u32 (0 : Int)]) true))] 31)) (fun K => by kernel_rfl) ?_
  refine ⟨hsu _, ?_⟩
  obtain ⟨u0, hu0⟩ : ∃ u0, u0 = dig A ++ [0] := ⟨_, rfl⟩
  have hu0d : Dg u0 := hu0 ▸ dg_append (dig_lt A) (dg_one (by omega))
  have hu0v : val u0 = A := by rw [hu0, val_append, val_dig]; simp [val]
  have hu0l : u0.length = (dig A).length + 1 := by rw [hu0]; simp
  have hcells : u32s (dig A) ++ setCells (zeros 1 [.int .u32 0]) 0 [.int .u32 0] = u32s u0 := by rw [hu0]; simp [u32s, zeros, setCells]
  have hA0 : A < 4294967296 ^ (dig A).length := by have := val_lt (dig_lt A); rwa [val_dig] at this
  rw [hcells]
  obtain ⟨m, rfl⟩ : ∃ m, n = m + 2 := ⟨n - 2, by omega⟩
  obtain ⟨k0, hk0⟩ : ∃ k0, k0 = u0.length - (m + 2) := ⟨_, rfl⟩
  have hu0k : u0.length = k0 + (m + 2) := by omega
  obtain ⟨t, htv⟩ := get_ex (l := v) (i := m + 1) (by omega)
  obtain ⟨x, hxv⟩ := get_ex (l := v) (i := m) (by omega)
  have ht0 : 0 < t := by
    rcases Nat.eq_zero_or_pos t with h | h
    · exfalso
      subst h
      have h1 := val_take_succ htv
      rw [List.take_of_length_le (by omega), Nat.mul_zero, Nat.add_zero, hvv] at h1
      have h2 := val_take_lt hvd (m + 1)
      have h3 := dig_len (n := V) (k := m + 1) (by omega)
      rw [← hv] at h3
      omega
    · exact h
  have ht32 := dg_get hvd htv
  have hx32 := dg_get hvd hxv
  rw [← hu0l]
  refine ⟨rfl, ⟨by simp, by omega⟩, ?_⟩
  refine awp_sx prog_ok hP hnt [(70, .int .i64 k0)] [] [] [4, 6, 10, 11, 12] (by kernel_rfl) (G := fun K => IntKind.i64.wrap ((↑u0.length : Int) - (↑(m + 2) : Int)) = (↑k0 : Int) ∧ ((↑k0 : Int) = (↑k0 : Int) ∧ (0 : Int) ≤ (↑k0 : Int) ∧ (↑k0 : Int) * (↑4 : Int) ≤ (2 : Int) ^ 47) ∧ K (St.mk [(6, Abs.V.d (D.int IntKind.i64 (↑(m + 2) : Int))), (10, Abs.V.d (D.int IntKind.i64 (↑s : Int))), (11, Abs.V.d (du v)), (12, Abs.V.own 29 0 u0.length 1), (4, Abs.V.own 35 0 (↑k0 : Int).toNat 1)] [(27, none), (29, some (Blk.mk (u32s u0) true)), (35, some (Blk.mk (zeros (↑k0 : Int).toNat (TI.mk (Kind.int IntKind.u32) 1 4 [D.int IntKind.u32 (0 : Int)]).zero) true))] 37)) (fun K => by kernel_rfl) ?_
  refine ⟨by rw [w64] <;> omega, ⟨rfl, by omega, by omega⟩, ?_⟩
  have gv1 : (List.drop ((m + 1 : Nat) * 1) (u32s v))[0]? = some (D.int .u32 t) := by
    rw [Nat.mul_one, List.getElem?_drop, Nat.add_zero, u32s_get, htv]; rfl
  have gv0 : (List.drop (m * 1) (u32s v))[0]? = some (D.int .u32 x) := by
    rw [Nat.mul_one, List.getElem?_drop, Nat.add_zero, u32s_get, hxv]; rfl
  refine awp_sx prog_ok hP hnt [(74, .int .i64 (m + 1 : Nat)), (77, .int .u64 t), (80, .int .i64 m), (83, .int .u64 x)] [] [some [.int .u32 t], some [.int .u32 x]] [4, 6, 10, 11, 12, 13, 14] (by kernel_rfl) (G := fun K => IntKind.i64.wrap ((↑(m + 2) : Int) - (1 : Int)) = (↑(m + 1) : Int) ∧ ((0 : Int) ≤ (↑(m + 1) : Int) ∧ (↑(m + 1) : Int) < (↑v.length : Int) ∧ ((↑(m + 1) : Int).toNat + 1) * 1 ≤ (u32s v).length) ∧ (List.drop ((↑(m + 1) : Int).toNat * 1) (u32s v))[0]? = some (D.int IntKind.u32 (↑t : Int)) ∧ IntKind.u64.wrap (↑t : Int) = (↑t : Int) ∧ IntKind.i64.wrap ((↑(m + 2) : Int) - (2 : Int)) = (↑m : Int) ∧ ((0 : Int) ≤ (↑m : Int) ∧ (↑m : Int) < (↑v.length : Int) ∧ ((↑m : Int).toNat + 1) * 1 ≤ (u32s v).length) ∧ (List.drop ((↑m : Int).toNat * 1) (u32s v))[0]? = some (D.int IntKind.u32 (↑x : Int)) ∧ IntKind.u64.wrap (↑x : Int) = (↑x : Int) ∧ K (St.mk [(6, Abs.V.d (D.int IntKind.i64 (↑(m + 2) : Int))), (10, Abs.V.d (D.int IntKind.i64 (↑s : Int))), (11, Abs.V.d (du v)), (12, Abs.V.own 29 0 u0.length 1), (4, Abs.V.own 35 0 (↑k0 : Int).toNat 1), (13, Abs.V.d (D.int IntKind.u64 (↑t : Int))), (14, Abs.V.d (D.int IntKind.u64 (↑x : Int)))] [(27, none), (29, some (Blk.mk (u32s u0) true)), (35, some (Blk.mk (zeros (↑k0 : Int).toNat (TI.mk (Kind.int IntKind.u32) 1 4 [D.int IntKind.u32 (0 : Int)]).zero) true))] 51)) (fun K => by kernel_rfl) ?_
  refine ⟨by rw [w64] <;> omega, ⟨by omega, by omega, by simp; omega⟩, gv1, u64w (by omega) (by omega), by rw [w64] <;> omega, ⟨by omega, by omega, by simp; omega⟩, gv0, u64w (by omega) (by omega), ?_⟩
  refine awp_seq_k fun K hK => awp_label (hK _ ?_)
  refine awp_cut (ι := List Nat × List Nat) (fun ⟨u, q⟩ => ⟨[(4, .own 1 0 k0 1), (6, .d (.int .i64 (m + 2 : Nat))), (10, .d (.int .i64 s)), (12, .own 0 0 (k0 + (m + 2)) 1)], [(0, some ⟨u32s u, true⟩), (1, some ⟨u32s q, true⟩)], 2⟩)
    (fun ⟨u, q⟩ => u.length = k0 + (m + 2) ∧ Dg u ∧ q.length = k0 ∧ Dg q ∧ A = val q * V + val u ∧ val u < V) ?_ ?_
  · refine awp_sx prog_ok hP hnt [(88, .int .i64 ((k0 : Int) - 1))] [] [] [4, 6, 10, 11, 12, 13, 14, 15] (by kernel_rfl) (G := fun K => IntKind.i64.wrap (IntKind.i64.wrap ((↑u0.length : Int) - (↑(m + 2) : Int)) - (1 : Int)) = (↑k0 : Int) - (1 : Int) ∧ K (St.mk [(6, Abs.V.d (D.int IntKind.i64 (↑(m + 2) : Int))), (10, Abs.V.d (D.int IntKind.i64 (↑s : Int))), (11, Abs.V.d (du v)), (12, Abs.V.own 29 0 u0.length 1), (4, Abs.V.own 35 0 (↑k0 : Int).toNat 1), (13, Abs.V.d (D.int IntKind.u64 (↑t : Int))), (14, Abs.V.d (D.int IntKind.u64 (↑x : Int))), (15, Abs.V.d (D.int IntKind.i64 ((↑k0 : Int) - (1 : Int))))] [(27, none), (29, some (Blk.mk (u32s u0) true)), (35, some (Blk.mk (zeros (↑k0 : Int).toNat (TI.mk (Kind.int IntKind.u32) 1 4 [D.int IntKind.u32 (0 : Int)]).zero) true))] 57)) (fun K => by kernel_rfl) ?_
    have hw0 : IntKind.i64.wrap ((u0.length : Int) - (m + 2 : Nat)) = (k0 : Int) := by rw [w64] <;> omega
    refine ⟨by rw [hw0, w64] <;> omega, ?_⟩
    refine awp_block ?_
    refine awp_loop (ι := Nat × List Nat × List Nat) (fun ⟨k, u, q⟩ => ⟨[(4, .own 1 0 k0 1), (6, .d (.int .i64 (m + 2 : Nat))), (10, .d (.int .i64 s)), (11, .d (du v)), (12, .own 0 0 (k0 + (m + 2)) 1), (13, .d (.int .u64 t)), (14, .d (.int .u64 x)), (15, .d (.int .i64 ((k : Int) - 1)))], [(0, some ⟨u32s u, true⟩), (1, some ⟨u32s q, true⟩)], 2⟩)
      (fun ⟨k, u, q⟩ => k ≤ k0 ∧ u.length = k0 + (m + 2) ∧ Dg u ∧ q.length = k0 ∧ Dg q ∧ q.take k = List.replicate k 0 ∧ A = val q * V + val u ∧ val u < V * 4294967296 ^ k) (fun ⟨k, u, q⟩ => k) (k0, u0, List.replicate k0 0) [(0, 29), (1, 35)] ?_ ?_ ?_
    · refine ⟨Nat.le_refl _, hu0k, hu0d, by simp, dg_zeros _, by simp, by rw [val_zeros, hu0v]; omega, ?_⟩
      have h1 := dig_ge (n := V) (k := m + 1) (by rw [← hv]; omega)
      rw [show (dig A).length = (m + 1) + k0 by omega, Nat.pow_add] at hA0
      rw [hu0v]
      exact Nat.lt_of_lt_of_le hA0 (Nat.mul_le_mul_right _ h1)
    · rw [hu0k]
      (constructor <;> simp [hl, envOk, memOk, conv, St.get, St.blk, zeros_u32])
    rintro ⟨k, u, q⟩ ⟨hk, hul, hud, hql, hqd, hq0, hAv, hult⟩
    refine awp_seq_k fun K1 hK1 => ?_
    refine awp_sx prog_ok hP hnt [] [] [] [4, 6, 10, 11, 12, 13, 14, 15, 90] (by kernel_rfl) (G := fun K => K (St.mk [(4, Abs.V.own 1 0 k0 1), (6, Abs.V.d (D.int IntKind.i64 (↑(m + 2) : Int))), (10, Abs.V.d (D.int IntKind.i64 (↑s : Int))), (11, Abs.V.d (du v)), (12, Abs.V.own 0 0 (k0 + (m + 2)) 1), (13, Abs.V.d (D.int IntKind.u64 (↑t : Int))), (14, Abs.V.d (D.int IntKind.u64 (↑x : Int))), (15, Abs.V.d (D.int IntKind.i64 ((↑k : Int) - (1 : Int)))), (90, Abs.V.d (D.bool (decide ((↑k : Int) - (1 : Int) ≥ (0 : Int)))))] [(0, some (Blk.mk (u32s u) true)), (1, some (Blk.mk (u32s q) true))] 4)) (fun K => by kernel_rfl) ?_
    refine awp_cond rfl (fun e => awp_skip (hK1 _ ?_)) (fun e => awp_exit ⟨(u, q), [(0, 0), (1, 1)], ?_, ?_⟩)
    · simp at e
      obtain ⟨j, rfl⟩ : ∃ j, k = j + 1 := ⟨k - 1, by omega⟩
      have ej : ((j + 1 : Nat) : Int) - 1 = (j : Nat) := by omega
      rw [ej]
      refine awp_cut (ι := List Nat × List Nat) (fun z => longSt m k0 s v z.1 z.2 t x j []) (fun z => z.1.length = k0 + (m + 2) ∧ Dg z.1 ∧ z.2.length = k0 ∧ Dg z.2 ∧ z.2.take j = List.replicate j 0 ∧ A = val z.2 * V + val z.1 ∧ val z.1 < V * 4294967296 ^ j)
        (awp_weak [(0, 0), (1, 1)] (longSt m k0 s v u q t x j []) ?_ (digit_loop hP hnt hl (by omega) hul hud hvd hvv ht4 (by omega) hql hqd hq0 hAv hult htv hxv ht0)) ?_
      · unfold longSt
        (constructor <;> simp [hl, envOk, memOk, conv, St.get, St.blk])
      rintro ⟨u', q'⟩ ⟨h1, h2, h3, h4, h5, h6, h7⟩
      unfold longSt
      simp only at h1 h2 h3 h4 h5 h6 h7
      refine awp_x prog_ok hP hnt [(92, .int .i64 ((j : Int) - 1))] [] [] [4, 6, 10, 11, 12, 13, 14, 15] (by kernel_rfl) (G := fun K => IntKind.i64.wrap ((↑j : Int) - (1 : Int)) = (↑j : Int) - (1 : Int) ∧ K (St.mk [(4, Abs.V.own 1 0 k0 1), (6, Abs.V.d (D.int IntKind.i64 (↑(m + 2) : Int))), (10, Abs.V.d (D.int IntKind.i64 (↑s : Int))), (11, Abs.V.d (du v)), (12, Abs.V.own 0 0 (k0 + (m + 2)) 1), (13, Abs.V.d (D.int IntKind.u64 (↑t : Int))), (14, Abs.V.d (D.int IntKind.u64 (↑x : Int))), (15, Abs.V.d (D.int IntKind.i64 ((↑j : Int) - (1 : Int))))] [(0, some (Blk.mk (u32s u') true)), (1, some (Blk.mk (u32s q') true))] 5)) (fun K => by kernel_rfl) ?_
      refine ⟨by rw [w64] <;> omega, (j, u', q'), [(0, 0), (1, 1)], ⟨⟨by omega, h1, h2, h3, h4, h5, h6, h7⟩, by show j < j + 1; omega⟩, ?_⟩
      (constructor <;> simp [hl, envOk, memOk, conv, St.get, St.blk])
    · simp at e
      have hk0' : k = 0 := by omega
      subst hk0'
      exact ⟨hul, hud, hql, hqd, hAv, by simpa using hult⟩
    · (constructor <;> simp [hl, envOk, memOk, conv, St.get, St.blk])
  rintro ⟨u, q⟩ ⟨h1, h2, h3, h4, h5, h6⟩
  have hVp : 0 < V := by omega
  have hq : A / V = val q := by rw [h5, Nat.mul_comm, Nat.mul_add_div hVp, Nat.div_eq_of_lt h6]; rfl
  have hr : A % V = val u := by rw [h5, Nat.mul_comm, Nat.mul_add_mod, Nat.mod_eq_of_lt h6]
  have hqq : val a / B = val q := by rw [← hq, hA, hV, Nat.mul_div_mul_right _ _ (Nat.pow_pos (by omega))]
  have hrr : val a % B = val u / 2 ^ s := by rw [← hr, hA, hV, Nat.mul_mod_mul_right, Nat.mul_div_cancel _ (Nat.pow_pos (by omega))]
  have hVn : V < 4294967296 ^ (m + 2) := by have := val_lt hvd; rwa [hvv, ht4] at this
  have hut : val (u.take (m + 2)) = val u := take_small (by omega) (Nat.lt_trans h6 hVn)
  have hnq := nnorm_fn q (by omega) h4
  have hsr := shr_fn (u.take (m + 2)) s (by simp; omega) (dg_take h2 _) (by omega)
  rw [← hqq] at hnq
  rw [hut, ← hrr] at hsr
  refine awp_sx prog_ok hP hnt [] [.val (.d (du (dig (val a / B)))), .val (.d (du (dig (val a % B))))] [] [4, 5] (by kernel_rfl) (G := fun K => Fn Try.prog 230 [Abs.V.d (D.lst k0 (List.take (k0 * 1) (List.drop 0 (u32s q))))] [] (Abs.V.d (du (dig (val a / B)))) [] ∧ ((0 : Int) ≤ (↑(m + 2) : Int) ∧ (↑(m + 2) : Int) ≤ (↑(k0 + (m + 2)) : Int)) ∧ Fn Try.prog 250 [Abs.V.d (D.lst (↑(m + 2) : Int).toNat (List.take ((↑(m + 2) : Int).toNat * 1) (List.drop 0 (u32s u)))), Abs.V.d (D.int IntKind.i64 (↑s : Int))] [] (Abs.V.d (du (dig (val a % B)))) [] ∧ K (St.mk [(4, Abs.V.d (du (dig (val a / B)))), (5, Abs.V.d (du (dig (val a % B))))] [(0, some (Blk.mk (u32s u) false)), (1, some (Blk.mk (u32s q) false))] 11)) (fun K => by kernel_rfl) ?_
  rw [Nat.mul_one, Nat.mul_one, List.drop_zero, List.drop_zero, Int.toNat_natCast, u32s_take, u32s_take]
  have e1 : D.lst k0 (u32s (q.take k0)) = du q := by rw [List.take_of_length_le (by omega), ← h3]; rfl
  have e2 : D.lst (m + 2) (u32s (u.take (m + 2))) = du (u.take (m + 2)) := by
    have : (u.take (m + 2)).length = m + 2 := by rw [List.length_take]; omega
    rw [du, this]
  rw [e1, e2]
  exact ⟨hnq, ⟨by omega, by omega⟩, hsr, awp_ret ⟨.inl rfl, ret2 rfl rfl⟩⟩
end Go.Abs

set_option linter.unusedVariables false
set_option linter.unusedSimpArgs false
namespace Go.Abs
open Go Go.Proofs
set_option maxRecDepth 100000

theorem dzero_fn (s : Bool) (l : List Nat) (h : l.length ≤ 2 ^ 40) (hd : Dg l) : Fn Try.prog 234 [.agg (ic s l)] [] (.d (.bool (decide (val l = 0)))) [] := by
  refine fn0 (nt := 6) (res := [.tmp 2]) Try.func234 rfl (by decide) rfl rfl rfl rfl ?_
  intro Cx hP hnt hl
  have h1 := isZero_fn l (by omega) hd
  refine awp_sx prog_ok hP hnt [] [] [] [1] (by kernel_rfl) (G := fun K => K (St.mk [(1, V.ptr 0 0)] [(0, some (Blk.mk [D.bool s, du l] true))] 2)) (fun K => by kernel_rfl) ?_
  refine awp_sx prog_ok hP hnt [] [.val (.d (.bool (decide (val l = 0))))] [some [du l]] [2] (by kernel_rfl) (G := fun K => [D.bool s, du l][1]? = some (du l) ∧ Fn Try.prog 187 [V.d (du l)] [] (V.d (D.bool (decide (val l = 0)))) [] ∧ K (St.mk [(2, V.d (D.bool (decide (val l = 0))))] [(0, some (Blk.mk [D.bool s, du l] true))] 6)) (fun K => by kernel_rfl) ?_
  exact ⟨rfl, h1, awp_ret ⟨.inl rfl, retD rfl⟩⟩

/-- results: two variables of two cells and a plain one -/
theorem retCCT {T : Tab} {c1 c2 t b1 b2 u : Nat} {s : St} {cs1 cs2 : List D} {l1 l2 : Bool} {d : D} (h1 : s.get c1 = .ptr b1 0) (h2 : s.blk b1 = some ⟨cs1, l1⟩) (h3 : s.get c2 = .ptr b2 0) (h4 : s.blk b2 = some ⟨cs2, l2⟩) (h5 : s.get u = .d d)
    (ha : Tab.agg T t = true) (hs1 : T.size t = cs1.length) (hs2 : T.size t = cs2.length) : RetOk T [.cell c1 t, .cell c2 t, .tmp u] (.tup [.agg cs1, .agg cs2, .d d]) [] s := by
  unfold RetOk evalRes
  rw [h1]
  simp only [h2, ha, if_true, evalRes, h3, h4, h5]
  refine ⟨by omega, by omega, .inl ⟨?_, trivial⟩⟩
  rw [List.drop_zero, List.drop_zero, hs1, List.take_of_length_le (Nat.le_refl _), ← hs1, hs2, List.take_of_length_le (Nat.le_refl _)]
  rfl
theorem retCT {T : Tab} {c1 t b1 u : Nat} {s : St} {cs1 : List D} {l1 : Bool} {d : D} (h1 : s.get c1 = .ptr b1 0) (h2 : s.blk b1 = some ⟨cs1, l1⟩) (h5 : s.get u = .d d)
    (ha : Tab.agg T t = true) (hs1 : T.size t = cs1.length) : RetOk T [.cell c1 t, .tmp u] (.tup [.agg cs1, .d d]) [] s := by
  unfold RetOk evalRes
  rw [h1]
  simp only [h2, ha, if_true, evalRes, h5]
  refine ⟨by omega, .inl ⟨?_, trivial⟩⟩
  rw [List.drop_zero, hs1, List.take_of_length_le (Nat.le_refl _)]
  rfl

theorem sgn_tdiv (s t : Bool) (m n : Nat) : (sgn s m).tdiv (sgn t n) = sgn (s != t) (m / n) := by
  have e : (m : Int).tdiv n = (m / n : Nat) := rfl
  cases s <;> cases t <;> simp [sgn, Int.tdiv_neg, Int.neg_tdiv, e]
theorem sgn_tmod (s t : Bool) (m n : Nat) : (sgn s m).tmod (sgn t n) = sgn s (m % n) := by
  have e : (m : Int).tmod n = (m % n : Nat) := rfl
  cases s <;> cases t <;> simp [sgn, Int.tmod_neg, Int.neg_tmod, e]

theorem quo_fn (s t : Bool) (l m : List Nat) (hl1 : l.length ≤ 2 ^ 38) (hm1 : m.length ≤ 2 ^ 38) (dl : Dg l) (dm : Dg m) (h0 : val m ≠ 0) :
    Fn Try.prog 233 [.agg (ic s l), .agg (ic t m)] [] (.tup [.agg (iz ((ival s l).tdiv (ival t m))), .agg (iz ((ival s l).tmod (ival t m))), .d (.int .i64 0)]) [] := by
  refine fn0 (nt := 32) (res := [.cell 4 46, .cell 5 46, .tmp 6]) Try.func233 rfl (by decide) rfl rfl rfl rfl ?_
  intro Cx hP hnt hl
  have hz := dzero_fn t m (by omega) dm
  rw [decide_eq_false h0] at hz
  have hlong := long_fn l m hl1 hm1 dl dm h0
  refine awp_sx prog_ok hP hnt [] [] [] [2, 3, 4, 5] (by kernel_rfl) (G := fun K => K (St.mk [(2, V.ptr 0 0), (3, V.ptr 1 0), (4, V.ptr 2 0), (5, V.ptr 3 0)] [(0, some (Blk.mk [D.bool s, du l] true)), (1, some (Blk.mk [D.bool t, du m] true)), (2, some (Blk.mk [D.bool false, D.lst 0 []] true)), (3, some (Blk.mk [D.bool false, D.lst 0 []] true))] 5)) (fun K => by kernel_rfl) ?_
  refine awp_seq_k fun K hK => ?_
  refine awp_sx prog_ok hP hnt [] [.val (.d (.bool false))] [] [2, 3, 4, 5, 10] (by kernel_rfl) (G := fun K => Fn Try.prog 234 [V.agg [D.bool t, du m]] [] (V.d (D.bool false)) [] ∧ K (St.mk [(2, V.ptr 0 0), (3, V.ptr 1 0), (4, V.ptr 2 0), (5, V.ptr 3 0), (10, V.d (D.bool false))] [(0, some (Blk.mk [D.bool s, du l] true)), (1, some (Blk.mk [D.bool t, du m] true)), (2, some (Blk.mk [D.bool false, D.lst 0 []] true)), (3, some (Blk.mk [D.bool false, D.lst 0 []] true))] 7)) (fun K => by kernel_rfl) ?_
  have hva := val_lt dl
  have hq : (dig (val l / val m)).length ≤ 2 ^ 40 := Nat.le_trans (dig_len (Nat.lt_of_le_of_lt (Nat.div_le_self _ _) hva)) (by omega)
  have hr : (dig (val l % val m)).length ≤ 2 ^ 40 := Nat.le_trans (dig_len (Nat.lt_of_le_of_lt (Nat.mod_le _ _) hva)) (by omega)
  have f1 := from_fn (s != t) (dig (val l / val m)) hq (dig_lt _)
  have f2 := from_fn s (dig (val l % val m)) hr (dig_lt _)
  rw [show ival (s != t) (dig (val l / val m)) = (ival s l).tdiv (ival t m) from by unfold ival; rw [val_dig, sgn_tdiv]] at f1
  rw [show ival s (dig (val l % val m)) = (ival s l).tmod (ival t m) from by unfold ival; rw [val_dig, sgn_tmod]] at f2
  refine ⟨hz, awp_cond (b := false) rfl nofun fun _ => awp_skip (hK _ ?_)⟩
  refine awp_sx prog_ok hP hnt [] [.val (.tup [.d (du (dig (val l / val m))), .d (du (dig (val l % val m)))])] [some [du l], some [du m]] [2, 3, 4, 5, 7, 8] (by kernel_rfl) (G := fun K => [D.bool s, du l][1]? = some (du l) ∧ [D.bool t, du m][1]? = some (du m) ∧ Fn Try.prog 240 [V.d (du l), V.d (du m)] [] (V.tup [V.d (du (dig (val l / val m))), V.d (du (dig (val l % val m)))]) [] ∧ K (St.mk [(2, V.ptr 0 0), (3, V.ptr 1 0), (4, V.ptr 2 0), (5, V.ptr 3 0), (7, V.d (du (dig (val l / val m)))), (8, V.d (du (dig (val l % val m))))] [(0, some (Blk.mk [D.bool s, du l] true)), (1, some (Blk.mk [D.bool t, du m] true)), (2, some (Blk.mk [D.bool false, D.lst 0 []] true)), (3, some (Blk.mk [D.bool false, D.lst 0 []] true))] 17)) (fun K => by kernel_rfl) ?_
  refine ⟨rfl, rfl, hlong, ?_⟩
  obtain ⟨Q, hQ⟩ : ∃ Q, Q = (ival s l).tdiv (ival t m) := ⟨_, rfl⟩
  obtain ⟨R, hR⟩ : ∃ R, R = (ival s l).tmod (ival t m) := ⟨_, rfl⟩
  rw [← hQ] at f1 ⊢
  rw [← hR] at f2 ⊢
  refine awp_sx prog_ok hP hnt [(25, .bool (s != t))] [.val (.agg (iz Q)), .val (.agg (iz R))] [some [.bool s], some [.bool t], some [.bool s]] [4, 5, 6] (by kernel_rfl) (G := fun K => [D.bool s, du l][0]? = some (D.bool s) ∧ [D.bool t, du m][0]? = some (D.bool t) ∧ (!s == t) = (s != t) ∧ Fn Try.prog 182 [V.d (D.bool (s != t)), V.d (du (dig (val l / val m)))] [] (V.agg [D.bool (decide (Q < (0 : Int))), du (dig Q.natAbs)]) [] ∧ [D.bool s, du l][0]? = some (D.bool s) ∧ Fn Try.prog 182 [V.d (D.bool s), V.d (du (dig (val l % val m)))] [] (V.agg [D.bool (decide (R < (0 : Int))), du (dig R.natAbs)]) [] ∧ 0 + (iz Q).length ≤ [D.bool false, D.lst 0 []].length ∧ 0 + (iz R).length ≤ [D.bool false, D.lst 0 []].length ∧ K (St.mk [(4, V.ptr 2 0), (5, V.ptr 3 0), (6, V.d (D.int IntKind.i64 (0 : Int)))] [(0, some (Blk.mk [D.bool s, du l] true)), (1, some (Blk.mk [D.bool t, du m] true)), (2, some (Blk.mk [D.bool (decide (Q < (0 : Int))), du (dig Q.natAbs)] true)), (3, some (Blk.mk [D.bool (decide (R < (0 : Int))), du (dig R.natAbs)] true))] 31)) (fun K => by kernel_rfl) ?_
  exact ⟨rfl, rfl, rfl, f1, rfl, f2, by simp [iz], by simp [iz], awp_ret ⟨.inl rfl, retCCT rfl rfl rfl rfl rfl rfl rfl rfl⟩⟩

theorem iz_zero' : iz 0 = [.bool false, .lst 0 []] := by unfold iz; rw [show (0 : Int).natAbs = 0 from rfl, dig_zero]; rfl

theorem exact_fn (s t : Bool) (l m : List Nat) (hl1 : l.length ≤ 2 ^ 38) (hm1 : m.length ≤ 2 ^ 38) (dl : Dg l) (dm : Dg m) (h0 : val m ≠ 0) :
    Fn Try.prog 204 [.agg (ic s l), .agg (ic t m)] [] (.tup [.agg (iz (if ival t m ∣ ival s l then (ival s l).tdiv (ival t m) else 0)), .d (.int .i64 (if ival t m ∣ ival s l then 0 else 3))]) [] := by
  refine fn0 (nt := 26) (res := [.cell 4 46, .tmp 5]) Try.func204 rfl (by decide) rfl rfl rfl rfl ?_
  intro Cx hP hnt hl
  have hq := quo_fn s t l m hl1 hm1 dl dm h0
  refine awp_sx prog_ok hP hnt [] [] [] [2, 3, 4] (by kernel_rfl) (G := fun K => K (St.mk [(2, V.ptr 0 0), (3, V.ptr 1 0), (4, V.ptr 2 0)] [(0, some (Blk.mk [D.bool s, du l] true)), (1, some (Blk.mk [D.bool t, du m] true)), (2, some (Blk.mk [D.bool false, D.lst 0 []] true))] 4)) (fun K => by kernel_rfl) ?_
  obtain ⟨Q, hQ⟩ : ∃ Q, Q = (ival s l).tdiv (ival t m) := ⟨_, rfl⟩
  obtain ⟨R, hR⟩ : ∃ R, R = (ival s l).tmod (ival t m) := ⟨_, rfl⟩
  have hRn : R.natAbs ≤ val l := by
    rw [hR]; unfold ival; rw [sgn_tmod, sgn_abs]; exact Nat.mod_le _ _
  have hr : (dig R.natAbs).length ≤ 2 ^ 40 := Nat.le_trans (dig_len (Nat.lt_of_le_of_lt hRn (val_lt dl))) (by omega)
  have hz := dzero_fn (decide (R < 0)) (dig R.natAbs) hr (dig_lt _)
  rw [val_dig, ← iz_ic] at hz
  have hdvd : ival t m ∣ ival s l ↔ R = 0 := by rw [hR]; exact Int.dvd_iff_tmod_eq_zero
  rw [← hQ, ← hR] at hq
  rw [← hQ]
  refine awp_sx prog_ok hP hnt [] [.val (.tup [.agg (iz Q), .agg (iz R), .d (.int .i64 0)])] [some (ic s l), some (ic t m)] [4, 6, 7, 8] (by kernel_rfl) (G := fun K => ([D.bool s, du l][0]? = some (D.bool s) ∧ [D.bool s, du l][1]? = some (du l)) ∧ ([D.bool t, du m][0]? = some (D.bool t) ∧ [D.bool t, du m][1]? = some (du m)) ∧ Fn Try.prog 233 [V.agg [D.bool s, du l], V.agg [D.bool t, du m]] [] (V.tup [V.agg [D.bool (decide (Q < (0 : Int))), du (dig Q.natAbs)], V.agg [D.bool (decide (R < (0 : Int))), du (dig R.natAbs)], V.d (D.int IntKind.i64 (0 : Int))]) [] ∧ 0 + (iz Q).length ≤ (TI.mk (Kind.struct [(0, 1), (1, 1)]) 2 32 [D.bool false, D.lst 0 []]).zero.length ∧ 0 + (iz R).length ≤ (TI.mk (Kind.struct [(0, 1), (1, 1)]) 2 32 [D.bool false, D.lst 0 []]).zero.length ∧ K (St.mk [(4, V.ptr 2 0), (6, V.ptr 11 0), (7, V.ptr 12 0), (8, V.d (D.int IntKind.i64 (0 : Int)))] [(0, some (Blk.mk [D.bool s, du l] true)), (1, some (Blk.mk [D.bool t, du m] true)), (2, some (Blk.mk [D.bool false, D.lst 0 []] true)), (11, some (Blk.mk [D.bool (decide (Q < (0 : Int))), du (dig Q.natAbs)] true)), (12, some (Blk.mk [D.bool (decide (R < (0 : Int))), du (dig R.natAbs)] true))] 16)) (fun K => by kernel_rfl) ?_
  refine ⟨⟨rfl, rfl⟩, ⟨rfl, rfl⟩, hq, by simp [iz], by simp [iz], ?_⟩
  by_cases hR0 : R = 0
  · rw [if_pos (hdvd.2 hR0), if_pos (hdvd.2 hR0)]
    refine awp_seq_k fun K hK => ?_
    rw [decide_eq_true (by rw [hR0]; rfl)] at hz
    refine awp_sx prog_ok hP hnt [(17, .bool true), (21, .bool false), (22, .bool false)] [.val (.d (.bool true))] [some (iz R)] [4, 6, 8, 22] (by kernel_rfl) (G := fun K => ((0 : Int) == (0 : Int)) = true ∧ ([D.bool (decide (R < (0 : Int))), du (dig R.natAbs)][0]? = some (D.bool (decide (R < (0 : Int)))) ∧ [D.bool (decide (R < (0 : Int))), du (dig R.natAbs)][1]? = some (du (dig R.natAbs))) ∧ Fn Try.prog 234 [V.agg [D.bool (decide (R < (0 : Int))), du (dig R.natAbs)]] [] (V.d (D.bool true)) [] ∧ (!true) = false ∧ false = false ∧ K (St.mk [(4, V.ptr 2 0), (6, V.ptr 11 0), (8, V.d (D.int IntKind.i64 (0 : Int))), (22, V.d (D.bool false))] [(0, some (Blk.mk [D.bool s, du l] true)), (1, some (Blk.mk [D.bool t, du m] true)), (2, some (Blk.mk [D.bool false, D.lst 0 []] true)), (11, some (Blk.mk [D.bool (decide (Q < (0 : Int))), du (dig Q.natAbs)] true)), (12, some (Blk.mk [D.bool (decide (R < (0 : Int))), du (dig R.natAbs)] true))] 23)) (fun K => by kernel_rfl) ?_
    refine ⟨rfl, ⟨rfl, rfl⟩, hz, rfl, rfl, awp_cond (b := false) rfl nofun fun _ => awp_skip (hK _ ?_)⟩
    refine awp_sx prog_ok hP hnt [] [] [some (iz Q)] [4, 5] (by kernel_rfl) (G := fun K => ([D.bool (decide (Q < (0 : Int))), du (dig Q.natAbs)][0]? = some (D.bool (decide (Q < (0 : Int)))) ∧ [D.bool (decide (Q < (0 : Int))), du (dig Q.natAbs)][1]? = some (du (dig Q.natAbs))) ∧ 0 + (iz Q).length ≤ [D.bool false, D.lst 0 []].length ∧ K (St.mk [(4, V.ptr 2 0), (5, V.d (D.int IntKind.i64 (0 : Int)))] [(0, some (Blk.mk [D.bool s, du l] true)), (1, some (Blk.mk [D.bool t, du m] true)), (2, some (Blk.mk [D.bool (decide (Q < (0 : Int))), du (dig Q.natAbs)] true)), (11, some (Blk.mk [D.bool (decide (Q < (0 : Int))), du (dig Q.natAbs)] true)), (12, some (Blk.mk [D.bool (decide (R < (0 : Int))), du (dig R.natAbs)] true))] 27)) (fun K => by kernel_rfl) ?_
    exact ⟨⟨rfl, rfl⟩, by simp [iz], awp_ret ⟨.inl rfl, retCT rfl rfl rfl rfl rfl⟩⟩
  · have hnd : ¬ ival t m ∣ ival s l := fun h => hR0 (hdvd.1 h)
    rw [if_neg hnd, if_neg hnd]
    refine awp_seq_k fun K hK => ?_
    rw [decide_eq_false (by omega)] at hz
    refine awp_sx prog_ok hP hnt [(17, .bool true), (21, .bool true), (22, .bool true)] [.val (.d (.bool false))] [some (iz R)] [4, 6, 8, 22] (by kernel_rfl) (G := fun K => ((0 : Int) == (0 : Int)) = true ∧ ([D.bool (decide (R < (0 : Int))), du (dig R.natAbs)][0]? = some (D.bool (decide (R < (0 : Int)))) ∧ [D.bool (decide (R < (0 : Int))), du (dig R.natAbs)][1]? = some (du (dig R.natAbs))) ∧ Fn Try.prog 234 [V.agg [D.bool (decide (R < (0 : Int))), du (dig R.natAbs)]] [] (V.d (D.bool false)) [] ∧ (!false) = true ∧ true = true ∧ K (St.mk [(4, V.ptr 2 0), (6, V.ptr 11 0), (8, V.d (D.int IntKind.i64 (0 : Int))), (22, V.d (D.bool true))] [(0, some (Blk.mk [D.bool s, du l] true)), (1, some (Blk.mk [D.bool t, du m] true)), (2, some (Blk.mk [D.bool false, D.lst 0 []] true)), (11, some (Blk.mk [D.bool (decide (Q < (0 : Int))), du (dig Q.natAbs)] true)), (12, some (Blk.mk [D.bool (decide (R < (0 : Int))), du (dig R.natAbs)] true))] 23)) (fun K => by kernel_rfl) ?_
    refine ⟨rfl, ⟨rfl, rfl⟩, hz, rfl, rfl, awp_cond (b := true) rfl (fun _ => ?_) nofun⟩
    refine awp_sx prog_ok hP hnt [] [] [] [4, 5] (by kernel_rfl) (G := fun K => 2 ≤ [D.bool false, D.lst 0 []].length ∧ K (St.mk [(4, V.ptr 2 0), (5, V.d (D.int IntKind.i64 (3 : Int)))] [(0, some (Blk.mk [D.bool s, du l] true)), (1, some (Blk.mk [D.bool t, du m] true)), (2, some (Blk.mk [D.bool false, D.lst 0 []] true)), (11, some (Blk.mk [D.bool (decide (Q < (0 : Int))), du (dig Q.natAbs)] true)), (12, some (Blk.mk [D.bool (decide (R < (0 : Int))), du (dig R.natAbs)] true))] 26)) (fun K => by kernel_rfl) ?_
    refine ⟨by simp, awp_ret ⟨.inl rfl, retCT (l1 := true) rfl (by rw [iz_zero']; rfl) rfl rfl rfl⟩⟩

theorem igcd_fn (s t : Bool) (l m : List Nat) (hl1 : l.length ≤ 2 ^ 38) (hm1 : m.length ≤ 2 ^ 38) (dl : Dg l) (dm : Dg m) :
    Fn Try.prog 202 [.agg (ic s l), .agg (ic t m)] [] (.agg (iz (Nat.gcd (val l) (val m) : Nat))) [] := by
  refine fn0 (nt := 53) (res := [.cell 4 46]) Try.func202 rfl (by decide) rfl rfl rfl rfl ?_
  intro Cx hP hnt hl
  have n1 := nnorm_fn l (by omega) dl
  have n2 := nnorm_fn m (by omega) dm
  have k1 := dig_le dl
  have k2 := dig_le dm
  refine awp_sx prog_ok hP hnt [] [] [] [2, 3, 4] (by kernel_rfl) (G := fun K => K (St.mk [(2, V.ptr 0 0), (3, V.ptr 1 0), (4, V.ptr 2 0)] [(0, some (Blk.mk [D.bool s, du l] true)), (1, some (Blk.mk [D.bool t, du m] true)), (2, some (Blk.mk [D.bool false, D.lst 0 []] true))] 3)) (fun K => by kernel_rfl) ?_
  refine awp_sx prog_ok hP hnt [] [.val (.d (du (dig (val l)))), .val (.d (du (dig (val m))))] [some [du l], some [du m]] [4, 5, 6] (by kernel_rfl) (G := fun K => [D.bool s, du l][1]? = some (du l) ∧ Fn Try.prog 230 [V.d (du l)] [] (V.d (du (dig (val l)))) [] ∧ [D.bool t, du m][1]? = some (du m) ∧ Fn Try.prog 230 [V.d (du m)] [] (V.d (du (dig (val m)))) [] ∧ K (St.mk [(4, V.ptr 2 0), (5, V.d (du (dig (val l)))), (6, V.d (du (dig (val m))))] [(0, some (Blk.mk [D.bool s, du l] true)), (1, some (Blk.mk [D.bool t, du m] true)), (2, some (Blk.mk [D.bool false, D.lst 0 []] true))] 11)) (fun K => by kernel_rfl) ?_
  refine ⟨rfl, n1, rfl, n2, ?_⟩
  obtain ⟨G, hG⟩ : ∃ G, G = Nat.gcd (val l) (val m) := ⟨_, rfl⟩
  obtain ⟨a, ha⟩ : ∃ a, a = val l := ⟨_, rfl⟩
  obtain ⟨b, hb⟩ : ∃ b, b = val m := ⟨_, rfl⟩
  rw [← hG]
  rw [← ha] at k1 hG ⊢
  rw [← hb] at k2 hG ⊢
  have hl2 : l.length ≤ 2 ^ 38 := hl1
  have ka : (dig a).length ≤ 2 ^ 38 := by omega
  have kb : (dig b).length ≤ 2 ^ 38 := by omega
  have hfr : ∀ g : Nat, (dig g).length ≤ 2 ^ 40 → Fn Try.prog 182 [.d (.bool false), .d (du (dig g))] [] (.agg (iz (g : Nat))) [] := fun g hg => by
    have := from_fn false (dig g) hg (dig_lt g)
    rwa [show ival false (dig g) = (g : Int) from by unfold ival sgn; rw [val_dig]; simp] at this
  have hmod : ∀ x y : Nat, (dig (x % y)).length ≤ (dig x).length := fun x y => dig_len (Nat.lt_of_le_of_lt (Nat.mod_le _ _) (by have := val_lt (dig_lt x); rwa [val_dig] at this))
  refine awp_cut (ι := Unit) (fun _ => ⟨[(4, .ptr 0 0), (5, .d (du (dig G)))], [(0, some ⟨[.bool false, .lst 0 []], true⟩)], 1⟩) (fun _ => (dig G).length ≤ 2 ^ 38) ?_ ?_
  · refine awp_block ?_
    refine awp_loop (ι := Nat × Nat) (fun ⟨x, y⟩ => ⟨[(4, .ptr 0 0), (5, .d (du (dig x))), (6, .d (du (dig y)))], [(0, some ⟨[.bool false, .lst 0 []], true⟩)], 1⟩) (fun ⟨x, y⟩ => Nat.gcd x y = G ∧ (dig x).length ≤ 2 ^ 38 ∧ (dig y).length ≤ 2 ^ 38) (fun ⟨x, y⟩ => y) (a, b) [(0, 2)] ⟨hG.symm, ka, kb⟩ ?_ ?_
    · (constructor <;> simp [hl, envOk, memOk, conv, St.get, St.blk])
    rintro ⟨x, y⟩ ⟨hg, hx, hy⟩
    refine awp_seq_k fun K1 hK1 => ?_
    refine awp_sx prog_ok hP hnt [] [] [] [4, 5, 6, 21] (by kernel_rfl) (G := fun K => K (St.mk [(4, V.ptr 0 0), (5, V.d (du (dig x))), (6, V.d (du (dig y))), (21, V.d (D.bool (decide ((↑(dig y).length : Int) > (0 : Int)))))] [(0, some (Blk.mk [D.bool false, D.lst 0 []] true))] 4)) (fun K => by kernel_rfl) ?_
    refine awp_cond rfl (fun e => awp_skip (hK1 _ ?_)) (fun e => awp_exit ⟨(), [(0, 0)], ?_, ?_⟩)
    · simp at e
      have hy0 : y ≠ 0 := fun h => by subst h; rw [dig_zero] at e; simp at e
      have u1 := uint64_fn (dig x) (by omega) (dig_lt x)
      have u2 := uint64_fn (dig y) (by omega) (dig_lt y)
      rw [val_dig] at u1 u2
      have hlo := long_fn (dig x) (dig y) hx hy (dig_lt x) (dig_lt y) (by rw [val_dig]; exact hy0)
      rw [val_dig, val_dig] at hlo
      refine awp_block ?_
      refine awp_cut (ι := Unit) (fun _ => ⟨[(4, .ptr 0 0), (5, .d (du (dig x))), (6, .d (du (dig y)))], [(0, some ⟨[.bool false, .lst 0 []], true⟩)], 1⟩) (fun _ => True) ?_ ?_
      · refine awp_sx prog_ok hP hnt [] [.val (.tup [.d (.int .u64 (if x < 18446744073709551616 then x else 0 : Nat)), .d (.bool (decide (x < 18446744073709551616)))])] [] [4, 5, 6, 7, 8] (by kernel_rfl) (G := fun K => Fn Try.prog 239 [V.d (du (dig x))] [] (V.tup [V.d (D.int IntKind.u64 (↑(if x < 18446744073709551616 then x else 0) : Int)), V.d (D.bool (decide (x < 18446744073709551616)))]) [] ∧ K (St.mk [(4, V.ptr 0 0), (5, V.d (du (dig x))), (6, V.d (du (dig y))), (7, V.d (D.int IntKind.u64 (↑(if x < 18446744073709551616 then x else 0) : Int))), (8, V.d (D.bool (decide (x < 18446744073709551616))))] [(0, some (Blk.mk [D.bool false, D.lst 0 []] true))] 11)) (fun K => by kernel_rfl) ?_
        refine ⟨u1, ?_⟩
        refine awp_sx prog_ok hP hnt [] [] [] [4, 5, 6, 7, 27] (by kernel_rfl) (G := fun K => K (St.mk [(4, V.ptr 0 0), (5, V.d (du (dig x))), (6, V.d (du (dig y))), (7, V.d (D.int IntKind.u64 (↑(if x < 18446744073709551616 then x else 0) : Int))), (27, V.d (D.bool (decide (x < 18446744073709551616))))] [(0, some (Blk.mk [D.bool false, D.lst 0 []] true))] 12)) (fun K => by kernel_rfl) ?_
        refine awp_cond rfl (fun e1 => ?_) (fun e1 => awp_skip ⟨(), [(0, 0)], trivial, ?_⟩)
        · have hx64 := of_decide_eq_true e1
          rw [if_pos hx64]
          refine awp_sx prog_ok hP hnt [] [.val (.tup [.d (.int .u64 (if y < 18446744073709551616 then y else 0 : Nat)), .d (.bool (decide (y < 18446744073709551616)))])] [] [4, 5, 6, 7, 9, 10] (by kernel_rfl) (G := fun K => Fn Try.prog 239 [V.d (du (dig y))] [] (V.tup [V.d (D.int IntKind.u64 (↑(if y < 18446744073709551616 then y else 0) : Int)), V.d (D.bool (decide (y < 18446744073709551616)))]) [] ∧ K (St.mk [(4, V.ptr 0 0), (5, V.d (du (dig x))), (6, V.d (du (dig y))), (7, V.d (D.int IntKind.u64 (↑x : Int))), (9, V.d (D.int IntKind.u64 (↑(if y < 18446744073709551616 then y else 0) : Int))), (10, V.d (D.bool (decide (y < 18446744073709551616))))] [(0, some (Blk.mk [D.bool false, D.lst 0 []] true))] 19)) (fun K => by kernel_rfl) ?_
          refine ⟨u2, ?_⟩
          refine awp_sx prog_ok hP hnt [] [] [] [4, 5, 6, 7, 9, 33] (by kernel_rfl) (G := fun K => K (St.mk [(4, V.ptr 0 0), (5, V.d (du (dig x))), (6, V.d (du (dig y))), (7, V.d (D.int IntKind.u64 (↑x : Int))), (9, V.d (D.int IntKind.u64 (↑(if y < 18446744073709551616 then y else 0) : Int))), (33, V.d (D.bool (decide (y < 18446744073709551616))))] [(0, some (Blk.mk [D.bool false, D.lst 0 []] true))] 20)) (fun K => by kernel_rfl) ?_
          refine awp_cond rfl (fun e2 => ?_) (fun e2 => awp_skip ⟨(), [(0, 0)], trivial, ?_⟩)
          · have hy64 := of_decide_eq_true e2
            rw [if_pos hy64]
            refine awp_cut (ι := Unit) (fun _ => ⟨[(4, .ptr 0 0), (7, .d (.int .u64 G))], [(0, some ⟨[.bool false, .lst 0 []], true⟩)], 1⟩) (fun _ => G < 18446744073709551616) ?_ ?_
            · refine awp_block ?_
              refine awp_loop (ι := Nat × Nat) (fun ⟨x, y⟩ => ⟨[(4, .ptr 0 0), (7, .d (.int .u64 x)), (9, .d (.int .u64 y))], [(0, some ⟨[.bool false, .lst 0 []], true⟩)], 1⟩) (fun ⟨x, y⟩ => Nat.gcd x y = G ∧ x < 18446744073709551616 ∧ y < 18446744073709551616) (fun ⟨x, y⟩ => y) (x, y) [(0, 0)] ⟨hg, hx64, hy64⟩ ?_ ?_
              · (constructor <;> simp [hl, envOk, memOk, conv, St.get, St.blk])
              rintro ⟨p, q⟩ ⟨hpg, hp64, hq64⟩
              refine awp_seq_k fun K2 hK2 => ?_
              refine awp_sx prog_ok hP hnt [] [] [] [4, 7, 9, 35] (by kernel_rfl) (G := fun K => K (St.mk [(4, V.ptr 0 0), (7, V.d (D.int IntKind.u64 (↑p : Int))), (9, V.d (D.int IntKind.u64 (↑q : Int))), (35, V.d (D.bool ((↑q : Int) != (0 : Int))))] [(0, some (Blk.mk [D.bool false, D.lst 0 []] true))] 3)) (fun K => by kernel_rfl) ?_
              refine awp_cond rfl (fun e3 => awp_skip (hK2 _ ?_)) (fun e3 => awp_exit ⟨(), [(0, 0)], ?_, ?_⟩)
              · simp at e3
                have em : (p : Int).tmod q = (p % q : Nat) := rfl
                have hml : p % q < q := Nat.mod_lt _ (by omega)
                refine awp_block ?_
                refine awp_x prog_ok hP hnt [(39, .int .u64 (p % q : Nat))] [] [] [4, 7, 9] (by kernel_rfl) (G := fun K => (↑q : Int) ≠ (0 : Int) ∧ (↑p : Int).tmod (↑q : Int) = (↑(p % q) : Int) ∧ K (St.mk [(4, V.ptr 0 0), (7, V.d (D.int IntKind.u64 (↑q : Int))), (9, V.d (D.int IntKind.u64 (↑(p % q) : Int)))] [(0, some (Blk.mk [D.bool false, D.lst 0 []] true))] 9)) (fun K => by kernel_rfl) ?_
                refine ⟨by omega, em, (q, p % q), [(0, 0)], ⟨⟨by rw [← hpg, Nat.gcd_comm p q, Nat.gcd_rec q p, Nat.gcd_comm], hq64, by omega⟩, hml⟩, ?_⟩
                (constructor <;> simp [hl, envOk, memOk, conv, St.get, St.blk])
              · simp at e3
                subst e3
                rw [Nat.gcd_zero_right] at hpg
                omega
              · simp at e3
                subst e3
                rw [Nat.gcd_zero_right] at hpg
                subst hpg
                (constructor <;> simp [hl, envOk, memOk, conv, St.get, St.blk])
            intro _ hG64
            have ho := of_fn G hG64
            have hG2 : (dig G).length ≤ 2 := dig_len (by omega)
            refine awp_sx prog_ok hP hnt [] [.val (.d (du (dig G))), .val (.agg (iz (G : Nat)))] [] [4] (by kernel_rfl) (G := fun K => Fn Try.prog 155 [V.d (D.int IntKind.u64 (↑G : Int))] [] (V.d (du (dig G))) [] ∧ Fn Try.prog 182 [V.d (D.bool false), V.d (du (dig G))] [] (V.agg [D.bool (decide ((↑G : Int) < (0 : Int))), du (dig (↑G : Int).natAbs)]) [] ∧ 0 + (iz (↑G : Int)).length ≤ [D.bool false, D.lst 0 []].length ∧ K (St.mk [(4, V.ptr 0 0)] [(0, some (Blk.mk [D.bool (decide ((↑G : Int) < (0 : Int))), du (dig (↑G : Int).natAbs)] true))] 5)) (fun K => by kernel_rfl) ?_
            exact ⟨ho, hfr G (by omega), by simp [iz], awp_ret ⟨.inl rfl, retC (l := true) rfl rfl rfl rfl⟩⟩
          · (constructor <;> simp [hl, envOk, memOk, conv, St.get, St.blk])
        · (constructor <;> simp [hl, envOk, memOk, conv, St.get, St.blk])
      intro _ _
      refine awp_sx prog_ok hP hnt [] [.val (.tup [.d (du (dig (x / y))), .d (du (dig (x % y)))])] [] [4, 6, 12] (by kernel_rfl) (G := fun K => Fn Try.prog 240 [V.d (du (dig x)), V.d (du (dig y))] [] (V.tup [V.d (du (dig (x / y))), V.d (du (dig (x % y)))]) [] ∧ K (St.mk [(4, V.ptr 0 0), (6, V.d (du (dig y))), (12, V.d (du (dig (x % y))))] [(0, some (Blk.mk [D.bool false, D.lst 0 []] true))] 9)) (fun K => by kernel_rfl) ?_
      refine ⟨hlo, ?_⟩
      refine awp_x prog_ok hP hnt [] [] [] [4, 5, 6] (by kernel_rfl) (G := fun K => K (St.mk [(4, V.ptr 0 0), (6, V.d (du (dig (x % y)))), (5, V.d (du (dig y)))] [(0, some (Blk.mk [D.bool false, D.lst 0 []] true))] 13)) (fun K => by kernel_rfl) ?_
      refine ⟨(y, x % y), [(0, 0)], ⟨⟨by rw [← hg, Nat.gcd_comm x y, Nat.gcd_rec y x, Nat.gcd_comm], hy, by have := hmod x y; omega⟩, Nat.mod_lt _ (by omega)⟩, ?_⟩
      (constructor <;> simp [hl, envOk, memOk, conv, St.get, St.blk])
    · simp at e
      have hy0 : y = 0 := by rw [← val_dig y, e]; rfl
      subst hy0
      rw [Nat.gcd_zero_right] at hg
      rw [← hg]; exact hx
    · simp at e
      have hy0 : y = 0 := by rw [← val_dig y, e]; rfl
      subst hy0
      rw [Nat.gcd_zero_right] at hg
      subst hg
      (constructor <;> simp [hl, envOk, memOk, conv, St.get, St.blk])
  intro _ hGl
  refine awp_sx prog_ok hP hnt [] [.val (.agg (iz (G : Nat)))] [] [4] (by kernel_rfl) (G := fun K => Fn Try.prog 182 [V.d (D.bool false), V.d (du (dig G))] [] (V.agg [D.bool (decide ((↑G : Int) < (0 : Int))), du (dig (↑G : Int).natAbs)]) [] ∧ 0 + (iz (↑G : Int)).length ≤ [D.bool false, D.lst 0 []].length ∧ K (St.mk [(4, V.ptr 0 0)] [(0, some (Blk.mk [D.bool (decide ((↑G : Int) < (0 : Int))), du (dig (↑G : Int).natAbs)] true))] 4)) (fun K => by kernel_rfl) ?_
  exact ⟨hfr G (by omega), by simp [iz], awp_ret ⟨.inl rfl, retC (l := true) rfl rfl rfl rfl⟩⟩
end Go.Abs

set_option linter.unusedVariables false
set_option linter.unusedSimpArgs false
namespace Go.Abs
open Go Go.Proofs
set_option maxRecDepth 100000

/-- a fraction's cells -/
def rt (x : Int) (d : Nat) : List D := [.bool (decide (x < 0)), du (dig x.natAbs), du (dig d)]
/-- in lowest terms -/
def rnum (x : Int) (d : Nat) : Int := if d = 0 then 0 else x.tdiv (Nat.gcd x.natAbs d)
def rden (x : Int) (d : Nat) : Nat := if d = 0 then 1 else d / Nat.gcd x.natAbs d

theorem iz_nat' (n : Nat) : iz (n : Int) = ic false (dig n) := by rw [iz_ic, decide_eq_false (by omega)]; rfl

theorem one_fn : Fn Try.prog 183 [] [] (.d (du (dig 1))) [] := by
  refine fn0 (nt := 2) (res := [.tmp 0]) Try.func183 rfl (by decide) rfl rfl rfl rfl ?_
  intro Cx hP hnt hl
  have := of_fn 1 (by decide)
  refine awp_sx prog_ok hP hnt [] [] [] [] (by kernel_rfl) (G := fun K => K (St.mk [] [] 1)) (fun K => by kernel_rfl) ?_
  refine awp_sx prog_ok hP hnt [] [.val (.d (du (dig 1)))] [] [0] (by kernel_rfl) (G := fun K => Fn Try.prog 155 [V.d (D.int IntKind.u64 (1 : Int))] [] (V.d (du (dig 1))) [] ∧ K (St.mk [(0, V.d (du (dig 1)))] [] 3)) (fun K => by kernel_rfl) ?_
  exact ⟨this, awp_ret ⟨.inl rfl, retD rfl⟩⟩

theorem isOne_fn (n : Nat) (h : (dig n).length ≤ 2 ^ 40) : Fn Try.prog 231 [.d (du (dig n))] [] (.d (.bool (decide (n = 1)))) [] := by
  refine fn0 (nt := 12) (res := [.tmp 2]) Try.func231 rfl (by decide) rfl rfl rfl rfl ?_
  intro Cx hP hnt hl
  refine awp_sx prog_ok hP hnt [] [] [] [0] (by kernel_rfl) (G := fun K => K (St.mk [(0, V.d (du (dig n)))] [] 1)) (fun K => by kernel_rfl) ?_
  by_cases hl1 : (dig n).length = 1
  · have hn : n < 4294967296 := dig_lt_of_len (k := 1) (by omega)
    have h0 : n ≠ 0 := fun h => by rw [h, dig_zero] at hl1; simp at hl1
    have hd : dig n = [n] := by rw [dig_pos h0, Nat.mod_eq_of_lt hn, Nat.div_eq_of_lt hn, dig_zero]
    rw [hd]
    refine awp_sx prog_ok hP hnt [(5, .bool true)] [] [some [.int .u32 n]] [2] (by kernel_rfl) (G := fun K => ((↑[n].length : Int) == (1 : Int)) = true ∧ ((0 : Int) ≤ (0 : Int) ∧ (0 : Int) < (↑[n].length : Int) ∧ 1 ≤ (u32s [n]).length) ∧ (List.drop 0 (u32s [n]))[0]? = some (D.int IntKind.u32 (↑n : Int)) ∧ K (St.mk [(2, V.d (D.bool ((↑n : Int) == (1 : Int))))] [] 11)) (fun K => by kernel_rfl) ?_
    refine ⟨rfl, ⟨by omega, by simp, by simp⟩, rfl, awp_ret ⟨.inl rfl, retD ?_⟩⟩
    have : ((n : Int) == 1) = decide (n = 1) := by rw [Bool.eq_iff_iff]; simp; omega
    rw [← this]; rfl
  · have hn1 : n ≠ 1 := fun h => by subst h; exact hl1 (by rw [dig_pos (by omega)]; simp [dig_zero])
    refine awp_sx prog_ok hP hnt [(5, .bool false), (11, .bool false)] [] [] [2] (by kernel_rfl) (G := fun K => ((↑(dig n).length : Int) == (1 : Int)) = false ∧ false = false ∧ K (St.mk [(2, V.d (D.bool false))] [] 11)) (fun K => by kernel_rfl) ?_
    rw [decide_eq_false hn1]
    refine ⟨by simp; omega, rfl, awp_ret ⟨.inl rfl, retD rfl⟩⟩

theorem rmade_fn (s : Bool) (l m : List Nat) (hl1 : l.length ≤ 2 ^ 38) (hm1 : m.length ≤ 2 ^ 38) (dl : Dg l) (dm : Dg m) :
    Fn Try.prog 185 [.agg (ic s l), .d (du m)] [] (.agg (rt (rnum (ival s l) (val m)) (rden (ival s l) (val m)))) [] := by
  refine fn0 (nt := 57) (res := [.cell 4 78]) Try.func185 rfl (by decide) rfl rfl rfl rfl ?_
  intro Cx hP hnt hl
  have hnm := nnorm_fn m (by omega) dm
  have hlm := dig_le dm
  obtain ⟨d, hd⟩ : ∃ d, d = val m := ⟨_, rfl⟩
  obtain ⟨x, hx⟩ : ∃ x, x = ival s l := ⟨_, rfl⟩
  have hxn : val l = x.natAbs := by rw [hx]; unfold ival; rw [sgn_abs]
  rw [← hd] at hnm hlm ⊢
  rw [← hx]
  have hz := isZero_fn l (by omega) dl
  rw [hxn] at hz
  have ho := one_fn
  have h1 := isOne_fn d (by omega)
  have hin := inorm_fn s l (by omega) dl
  rw [← hx] at hin
  refine awp_sx prog_ok hP hnt [] [] [] [1, 2, 4] (by kernel_rfl) (G := fun K => K (St.mk [(1, V.d (du m)), (2, V.ptr 0 0), (4, V.ptr 1 0)] [(0, some (Blk.mk [D.bool s, du l] true)), (1, some (Blk.mk [D.bool false, D.lst 0 [], D.lst 0 []] true))] 2)) (fun K => by kernel_rfl) ?_
  refine awp_sx prog_ok hP hnt [] [.val (.d (du (dig d)))] [] [1, 2, 4] (by kernel_rfl) (G := fun K => Fn Try.prog 230 [V.d (du m)] [] (V.d (du (dig d))) [] ∧ K (St.mk [(1, V.d (du (dig d))), (2, V.ptr 0 0), (4, V.ptr 1 0)] [(0, some (Blk.mk [D.bool s, du l] true)), (1, some (Blk.mk [D.bool false, D.lst 0 [], D.lst 0 []] true))] 5)) (fun K => by kernel_rfl) ?_
  refine ⟨hnm, ?_⟩
  refine awp_seq_k fun K hK => ?_
  by_cases hd0 : d = 0
  · subst hd0
    rw [show rnum x 0 = 0 from if_pos rfl, show rden x 0 = 1 from if_pos rfl]
    refine awp_sx prog_ok hP hnt [(15, .bool true), (20, .bool true)] [] [] [1, 2, 4, 20] (by kernel_rfl) (G := fun K => ((↑(dig 0).length : Int) == (0 : Int)) = true ∧ true = true ∧ K (St.mk [(1, V.d (du (dig 0))), (2, V.ptr 0 0), (4, V.ptr 1 0), (20, V.d (D.bool true))] [(0, some (Blk.mk [D.bool s, du l] true)), (1, some (Blk.mk [D.bool false, D.lst 0 [], D.lst 0 []] true))] 13)) (fun K => by kernel_rfl) ?_
    refine ⟨by rw [dig_zero]; rfl, rfl, awp_cond (b := true) rfl (fun _ => ?_) nofun⟩
    have hrt : rt 0 1 = [.bool false, .lst 0 [], du (dig 1)] := by unfold rt; rw [show (0 : Int).natAbs = 0 from rfl, dig_zero]; rfl
    rw [hrt]
    refine awp_sx prog_ok hP hnt [] [.val (.d (du (dig 1)))] [] [4] (by kernel_rfl) (G := fun K => Fn Try.prog 183 [] [] (V.d (du (dig 1))) [] ∧ 3 ≤ [D.bool false, D.lst 0 [], D.lst 0 []].length ∧ K (St.mk [(4, V.ptr 1 0)] [(0, some (Blk.mk [D.bool s, du l] true)), (1, some (Blk.mk [D.bool false, D.lst 0 [], du (dig 1)] true))] 16)) (fun K => by kernel_rfl) ?_
    exact ⟨ho, by simp, awp_ret ⟨.inl rfl, retC (l := true) rfl rfl rfl rfl⟩⟩
  have hdl : 0 < (dig d).length := by have := mt dig_len0.1 hd0; omega
  have hbe : (((dig d).length : Int) == 0) = false := by rw [beq_eq_false_iff_ne]; omega
  have hrn : rnum x d = x.tdiv (Nat.gcd x.natAbs d) := if_neg hd0
  have hrd : rden x d = d / Nat.gcd x.natAbs d := if_neg hd0
  by_cases hx0 : x = 0
  · have e1 : rnum x d = 0 := by rw [hrn, hx0]; simp
    have e2 : rden x d = 1 := by rw [hrd, hx0, show (0 : Int).natAbs = 0 from rfl, Nat.gcd_zero_left, Nat.div_self (by omega)]
    rw [e1, e2]
    have hrt : rt 0 1 = [.bool false, .lst 0 [], du (dig 1)] := by unfold rt; rw [show (0 : Int).natAbs = 0 from rfl, dig_zero]; rfl
    rw [hrt]
    rw [decide_eq_true (by omega)] at hz
    refine awp_sx prog_ok hP hnt [(15, .bool false), (20, .bool true)] [.val (.d (.bool true))] [some [du l]] [1, 2, 4, 20] (by kernel_rfl) (G := fun K => ((↑(dig d).length : Int) == (0 : Int)) = false ∧ [D.bool s, du l][1]? = some (du l) ∧ Fn Try.prog 187 [V.d (du l)] [] (V.d (D.bool true)) [] ∧ true = true ∧ K (St.mk [(1, V.d (du (dig d))), (2, V.ptr 0 0), (4, V.ptr 1 0), (20, V.d (D.bool true))] [(0, some (Blk.mk [D.bool s, du l] true)), (1, some (Blk.mk [D.bool false, D.lst 0 [], D.lst 0 []] true))] 13)) (fun K => by kernel_rfl) ?_
    refine ⟨hbe, rfl, hz, rfl, awp_cond (b := true) rfl (fun _ => ?_) nofun⟩
    refine awp_sx prog_ok hP hnt [] [.val (.d (du (dig 1)))] [] [4] (by kernel_rfl) (G := fun K => Fn Try.prog 183 [] [] (V.d (du (dig 1))) [] ∧ 3 ≤ [D.bool false, D.lst 0 [], D.lst 0 []].length ∧ K (St.mk [(4, V.ptr 1 0)] [(0, some (Blk.mk [D.bool s, du l] true)), (1, some (Blk.mk [D.bool false, D.lst 0 [], du (dig 1)] true))] 16)) (fun K => by kernel_rfl) ?_
    exact ⟨ho, by simp, awp_ret ⟨.inl rfl, retC (l := true) rfl rfl rfl rfl⟩⟩
  rw [decide_eq_false (by omega)] at hz
  refine awp_sx prog_ok hP hnt [(15, .bool false), (20, .bool false)] [.val (.d (.bool false))] [some [du l]] [1, 2, 4, 20] (by kernel_rfl) (G := fun K => ((↑(dig d).length : Int) == (0 : Int)) = false ∧ [D.bool s, du l][1]? = some (du l) ∧ Fn Try.prog 187 [V.d (du l)] [] (V.d (D.bool false)) [] ∧ false = false ∧ K (St.mk [(1, V.d (du (dig d))), (2, V.ptr 0 0), (4, V.ptr 1 0), (20, V.d (D.bool false))] [(0, some (Blk.mk [D.bool s, du l] true)), (1, some (Blk.mk [D.bool false, D.lst 0 [], D.lst 0 []] true))] 13)) (fun K => by kernel_rfl) ?_
  refine ⟨hbe, rfl, hz, rfl, awp_cond (b := false) rfl nofun fun _ => awp_skip (hK _ ?_)⟩
  refine awp_seq_k fun K2 hK2 => ?_
  refine awp_sx prog_ok hP hnt [] [.val (.d (.bool (decide (d = 1))))] [] [1, 2, 4, 24] (by kernel_rfl) (G := fun K => Fn Try.prog 231 [V.d (du (dig d))] [] (V.d (D.bool (decide (d = 1)))) [] ∧ K (St.mk [(1, V.d (du (dig d))), (2, V.ptr 0 0), (4, V.ptr 1 0), (24, V.d (D.bool (decide (d = 1))))] [(0, some (Blk.mk [D.bool s, du l] true)), (1, some (Blk.mk [D.bool false, D.lst 0 [], D.lst 0 []] true))] 15)) (fun K => by kernel_rfl) ?_
  refine ⟨h1, awp_cond rfl (fun e => ?_) (fun e => awp_skip (hK2 _ ?_))⟩
  · have hd1 := of_decide_eq_true e
    rw [hrn, hrd, hd1, Nat.gcd_one_right, show x.tdiv ((1 : Nat) : Int) = x from Int.tdiv_one x, Nat.div_one]
    refine awp_sx prog_ok hP hnt [] [.val (.agg (iz x))] [some (ic s l)] [4] (by kernel_rfl) (G := fun K => ([D.bool s, du l][0]? = some (D.bool s) ∧ [D.bool s, du l][1]? = some (du l)) ∧ Fn Try.prog 165 [V.agg [D.bool s, du l]] [] (V.agg [D.bool (decide (x < (0 : Int))), du (dig x.natAbs)]) [] ∧ 0 + (setCells (setCells (TI.mk (Kind.struct [(0, 2), (2, 1)]) 3 56 [D.bool false, D.lst 0 [], D.lst 0 []]).zero 0 (iz x)) 2 [du (dig 1)]).length ≤ [D.bool false, D.lst 0 [], D.lst 0 []].length ∧ K (St.mk [(4, V.ptr 1 0)] [(0, some (Blk.mk [D.bool s, du l] true)), (1, some (Blk.mk [D.bool (decide (x < (0 : Int))), du (dig x.natAbs), du (dig 1)] true))] 20)) (fun K => by kernel_rfl) ?_
    exact ⟨⟨rfl, rfl⟩, hin, by simp [setCells_len], awp_ret ⟨.inl rfl, retC (l := true) rfl rfl rfl rfl⟩⟩
  have hd1 := of_decide_eq_false e
  have hfr := from_fn false (dig d) (by omega) (dig_lt d)
  rw [show ival false (dig d) = (d : Int) from by unfold ival sgn; rw [val_dig]; rfl] at hfr
  refine awp_sx prog_ok hP hnt [] [.val (.agg (iz (d : Nat)))] [] [1, 2, 4, 5] (by kernel_rfl) (G := fun K => Fn Try.prog 182 [V.d (D.bool false), V.d (du (dig d))] [] (V.agg [D.bool (decide ((↑d : Int) < (0 : Int))), du (dig (↑d : Int).natAbs)]) [] ∧ 0 + (iz (↑d : Int)).length ≤ (TI.mk (Kind.struct [(0, 1), (1, 1)]) 2 32 [D.bool false, D.lst 0 []]).zero.length ∧ K (St.mk [(1, V.d (du (dig d))), (2, V.ptr 0 0), (4, V.ptr 1 0), (5, V.ptr 17 0)] [(0, some (Blk.mk [D.bool s, du l] true)), (1, some (Blk.mk [D.bool false, D.lst 0 [], D.lst 0 []] true)), (17, some (Blk.mk [D.bool (decide ((↑d : Int) < (0 : Int))), du (dig (↑d : Int).natAbs)] true))] 19)) (fun K => by kernel_rfl) ?_
  refine ⟨hfr, by simp [iz], ?_⟩
  obtain ⟨g, hg⟩ : ∃ g, g = Nat.gcd x.natAbs d := ⟨_, rfl⟩
  have hgx : g ∣ x.natAbs := hg ▸ Nat.gcd_dvd_left _ _
  have hgd : g ∣ d := hg ▸ Nat.gcd_dvd_right _ _
  have hg0 : 0 < g := Nat.pos_of_ne_zero fun h => by rw [h] at hgd; exact hd0 (Nat.eq_zero_of_zero_dvd hgd)
  have hgle : g ≤ d := Nat.le_of_dvd (by omega) hgd
  have hgl : (dig g).length ≤ 2 ^ 38 := Nat.le_trans (dig_len (k := (dig d).length) (by have := val_lt (dig_lt d); rw [val_dig] at this; omega)) (by omega)
  have hgc := igcd_fn s false l (dig d) hl1 (by omega) dl (dig_lt d)
  rw [val_dig, hxn, ← hg, ← iz_nat'] at hgc
  rw [← hg] at hrn hrd
  have hg1 := isOne_fn g (by omega)
  refine awp_sx prog_ok hP hnt [] [.val (.agg (iz (g : Nat)))] [some (ic s l), some (iz (d : Nat))] [1, 2, 4, 5, 6] (by kernel_rfl) (G := fun K => ([D.bool s, du l][0]? = some (D.bool s) ∧ [D.bool s, du l][1]? = some (du l)) ∧ ([D.bool (decide ((↑d : Int) < (0 : Int))), du (dig (↑d : Int).natAbs)][0]? = some (D.bool (decide ((↑d : Int) < (0 : Int)))) ∧ [D.bool (decide ((↑d : Int) < (0 : Int))), du (dig (↑d : Int).natAbs)][1]? = some (du (dig (↑d : Int).natAbs))) ∧ Fn Try.prog 202 [V.agg [D.bool s, du l], V.agg [D.bool (decide ((↑d : Int) < (0 : Int))), du (dig (↑d : Int).natAbs)]] [] (V.agg [D.bool (decide ((↑g : Int) < (0 : Int))), du (dig (↑g : Int).natAbs)]) [] ∧ 0 + (iz (↑g : Int)).length ≤ (TI.mk (Kind.struct [(0, 1), (1, 1)]) 2 32 [D.bool false, D.lst 0 []]).zero.length ∧ K (St.mk [(1, V.d (du (dig d))), (2, V.ptr 0 0), (4, V.ptr 1 0), (5, V.ptr 17 0), (6, V.ptr 22 0)] [(0, some (Blk.mk [D.bool s, du l] true)), (1, some (Blk.mk [D.bool false, D.lst 0 [], D.lst 0 []] true)), (17, some (Blk.mk [D.bool (decide ((↑d : Int) < (0 : Int))), du (dig (↑d : Int).natAbs)] true)), (22, some (Blk.mk [D.bool (decide ((↑g : Int) < (0 : Int))), du (dig (↑g : Int).natAbs)] true))] 24)) (fun K => by kernel_rfl) ?_
  refine ⟨⟨rfl, rfl⟩, ⟨rfl, rfl⟩, hgc, by simp [iz], ?_⟩
  refine awp_seq_k fun K3 hK3 => ?_
  refine awp_sx prog_ok hP hnt [] [.val (.d (.bool (decide (g = 1))))] [some [du (dig g)]] [1, 2, 4, 5, 6, 36] (by kernel_rfl) (G := fun K => [D.bool (decide ((↑g : Int) < (0 : Int))), du (dig (↑g : Int).natAbs)][1]? = some (du (dig g)) ∧ Fn Try.prog 231 [V.d (du (dig g))] [] (V.d (D.bool (decide (g = 1)))) [] ∧ K (St.mk [(1, V.d (du (dig d))), (2, V.ptr 0 0), (4, V.ptr 1 0), (5, V.ptr 17 0), (6, V.ptr 22 0), (36, V.d (D.bool (decide (g = 1))))] [(0, some (Blk.mk [D.bool s, du l] true)), (1, some (Blk.mk [D.bool false, D.lst 0 [], D.lst 0 []] true)), (17, some (Blk.mk [D.bool (decide ((↑d : Int) < (0 : Int))), du (dig (↑d : Int).natAbs)] true)), (22, some (Blk.mk [D.bool (decide ((↑g : Int) < (0 : Int))), du (dig (↑g : Int).natAbs)] true))] 27)) (fun K => by kernel_rfl) ?_
  refine ⟨rfl, hg1, awp_cond rfl (fun e2 => ?_) (fun e2 => awp_skip (hK3 _ ?_))⟩
  · have hgg := of_decide_eq_true e2
    rw [hrn, hrd, hgg, show x.tdiv ((1 : Nat) : Int) = x from Int.tdiv_one x, Nat.div_one]
    refine awp_sx prog_ok hP hnt [] [.val (.agg (iz x))] [some (ic s l)] [4] (by kernel_rfl) (G := fun K => ([D.bool s, du l][0]? = some (D.bool s) ∧ [D.bool s, du l][1]? = some (du l)) ∧ Fn Try.prog 165 [V.agg [D.bool s, du l]] [] (V.agg [D.bool (decide (x < (0 : Int))), du (dig x.natAbs)]) [] ∧ 0 + (setCells (setCells (TI.mk (Kind.struct [(0, 2), (2, 1)]) 3 56 [D.bool false, D.lst 0 [], D.lst 0 []]).zero 0 (iz x)) 2 [du (dig d)]).length ≤ [D.bool false, D.lst 0 [], D.lst 0 []].length ∧ K (St.mk [(4, V.ptr 1 0)] [(0, some (Blk.mk [D.bool s, du l] true)), (1, some (Blk.mk [D.bool (decide (x < (0 : Int))), du (dig x.natAbs), du (dig d)] true)), (17, some (Blk.mk [D.bool (decide ((↑d : Int) < (0 : Int))), du (dig (↑d : Int).natAbs)] true)), (22, some (Blk.mk [D.bool (decide ((↑1 : Int) < (0 : Int))), du (dig (↑1 : Int).natAbs)] true))] 32)) (fun K => by kernel_rfl) ?_
    exact ⟨⟨rfl, rfl⟩, hin, by simp [setCells_len], awp_ret ⟨.inl rfl, retC (l := true) rfl rfl rfl rfl⟩⟩
  have x1 := exact_fn s false l (dig g) hl1 hgl dl (dig_lt g) (by rw [val_dig]; omega)
  have x2 := exact_fn false false (dig d) (dig g) (by omega) hgl (dig_lt d) (dig_lt g) (by rw [val_dig]; omega)
  rw [show ival false (dig g) = (g : Int) from by unfold ival sgn; rw [val_dig]; rfl, ← iz_nat'] at x1 x2
  rw [show ival false (dig d) = (d : Int) from by unfold ival sgn; rw [val_dig]; rfl, ← iz_nat', if_pos (Int.natCast_dvd_natCast.2 hgd), if_pos (Int.natCast_dvd_natCast.2 hgd), show ((d : Int)).tdiv g = ((d / g : Nat) : Int) from rfl] at x2
  have hgx2 : (g : Int) ∣ x := Int.ofNat_dvd_left.2 hgx
  rw [← hx, if_pos hgx2, if_pos hgx2, ← hrn] at x1
  rw [← hrd] at x2
  refine awp_sx prog_ok hP hnt [] [.val (.tup [.agg (iz (rnum x d)), .d (.int .i64 0)])] [some (ic s l), some (iz (g : Nat))] [4, 5, 6, 7] (by kernel_rfl) (G := fun K => ([D.bool s, du l][0]? = some (D.bool s) ∧ [D.bool s, du l][1]? = some (du l)) ∧ ([D.bool (decide ((↑g : Int) < (0 : Int))), du (dig (↑g : Int).natAbs)][0]? = some (D.bool (decide ((↑g : Int) < (0 : Int)))) ∧ [D.bool (decide ((↑g : Int) < (0 : Int))), du (dig (↑g : Int).natAbs)][1]? = some (du (dig (↑g : Int).natAbs))) ∧ Fn Try.prog 204 [V.agg [D.bool s, du l], V.agg [D.bool (decide ((↑g : Int) < (0 : Int))), du (dig (↑g : Int).natAbs)]] [] (V.tup [V.agg [D.bool (decide (rnum x d < (0 : Int))), du (dig (rnum x d).natAbs)], V.d (D.int IntKind.i64 (0 : Int))]) [] ∧ 0 + (iz (rnum x d)).length ≤ (TI.mk (Kind.struct [(0, 1), (1, 1)]) 2 32 [D.bool false, D.lst 0 []]).zero.length ∧ K (St.mk [(4, V.ptr 1 0), (5, V.ptr 17 0), (6, V.ptr 22 0), (7, V.ptr 33 0)] [(0, some (Blk.mk [D.bool s, du l] true)), (1, some (Blk.mk [D.bool false, D.lst 0 [], D.lst 0 []] true)), (17, some (Blk.mk [D.bool (decide ((↑d : Int) < (0 : Int))), du (dig (↑d : Int).natAbs)] true)), (22, some (Blk.mk [D.bool (decide ((↑g : Int) < (0 : Int))), du (dig (↑g : Int).natAbs)] true)), (33, some (Blk.mk [D.bool (decide (rnum x d < (0 : Int))), du (dig (rnum x d).natAbs)] true))] 36)) (fun K => by kernel_rfl) ?_
  refine ⟨⟨rfl, rfl⟩, ⟨rfl, rfl⟩, x1, by simp [iz], ?_⟩
  refine awp_sx prog_ok hP hnt [] [.val (.tup [.agg (iz (rden x d : Nat)), .d (.int .i64 0)])] [some (iz (d : Nat)), some (iz (g : Nat))] [4, 7, 9] (by kernel_rfl) (G := fun K => ([D.bool (decide ((↑d : Int) < (0 : Int))), du (dig (↑d : Int).natAbs)][0]? = some (D.bool (decide ((↑d : Int) < (0 : Int)))) ∧ [D.bool (decide ((↑d : Int) < (0 : Int))), du (dig (↑d : Int).natAbs)][1]? = some (du (dig (↑d : Int).natAbs))) ∧ ([D.bool (decide ((↑g : Int) < (0 : Int))), du (dig (↑g : Int).natAbs)][0]? = some (D.bool (decide ((↑g : Int) < (0 : Int)))) ∧ [D.bool (decide ((↑g : Int) < (0 : Int))), du (dig (↑g : Int).natAbs)][1]? = some (du (dig (↑g : Int).natAbs))) ∧ Fn Try.prog 204 [V.agg [D.bool (decide ((↑d : Int) < (0 : Int))), du (dig (↑d : Int).natAbs)], V.agg [D.bool (decide ((↑g : Int) < (0 : Int))), du (dig (↑g : Int).natAbs)]] [] (V.tup [V.agg [D.bool (decide ((↑(rden x d) : Int) < (0 : Int))), du (dig (↑(rden x d) : Int).natAbs)], V.d (D.int IntKind.i64 (0 : Int))]) [] ∧ 0 + (iz (↑(rden x d) : Int)).length ≤ (TI.mk (Kind.struct [(0, 1), (1, 1)]) 2 32 [D.bool false, D.lst 0 []]).zero.length ∧ K (St.mk [(4, V.ptr 1 0), (7, V.ptr 33 0), (9, V.ptr 42 0)] [(0, some (Blk.mk [D.bool s, du l] true)), (1, some (Blk.mk [D.bool false, D.lst 0 [], D.lst 0 []] true)), (17, some (Blk.mk [D.bool (decide ((↑d : Int) < (0 : Int))), du (dig (↑d : Int).natAbs)] true)), (22, some (Blk.mk [D.bool (decide ((↑g : Int) < (0 : Int))), du (dig (↑g : Int).natAbs)] true)), (33, some (Blk.mk [D.bool (decide (rnum x d < (0 : Int))), du (dig (rnum x d).natAbs)] true)), (42, some (Blk.mk [D.bool (decide ((↑(rden x d) : Int) < (0 : Int))), du (dig (↑(rden x d) : Int).natAbs)] true))] 45)) (fun K => by kernel_rfl) ?_
  refine ⟨⟨rfl, rfl⟩, ⟨rfl, rfl⟩, x2, by simp [iz], ?_⟩
  refine awp_sx prog_ok hP hnt [] [] [some (iz (rnum x d)), some [du (dig (rden x d))]] [4] (by kernel_rfl) (G := fun K => ([D.bool (decide (rnum x d < (0 : Int))), du (dig (rnum x d).natAbs)][0]? = some (D.bool (decide (rnum x d < (0 : Int)))) ∧ [D.bool (decide (rnum x d < (0 : Int))), du (dig (rnum x d).natAbs)][1]? = some (du (dig (rnum x d).natAbs))) ∧ [D.bool (decide ((↑(rden x d) : Int) < (0 : Int))), du (dig (↑(rden x d) : Int).natAbs)][1]? = some (du (dig (rden x d))) ∧ 0 + (setCells (setCells (TI.mk (Kind.struct [(0, 2), (2, 1)]) 3 56 [D.bool false, D.lst 0 [], D.lst 0 []]).zero 0 (iz (rnum x d))) 2 [du (dig (rden x d))]).length ≤ [D.bool false, D.lst 0 [], D.lst 0 []].length ∧ K (St.mk [(4, V.ptr 1 0)] [(0, some (Blk.mk [D.bool s, du l] true)), (1, some (Blk.mk [D.bool (decide (rnum x d < (0 : Int))), du (dig (rnum x d).natAbs), du (dig (rden x d))] true)), (17, some (Blk.mk [D.bool (decide ((↑d : Int) < (0 : Int))), du (dig (↑d : Int).natAbs)] true)), (22, some (Blk.mk [D.bool (decide ((↑g : Int) < (0 : Int))), du (dig (↑g : Int).natAbs)] true)), (33, some (Blk.mk [D.bool (decide (rnum x d < (0 : Int))), du (dig (rnum x d).natAbs)] true)), (42, some (Blk.mk [D.bool (decide ((↑(rden x d) : Int) < (0 : Int))), du (dig (↑(rden x d) : Int).natAbs)] true))] 50)) (fun K => by kernel_rfl) ?_
  exact ⟨⟨rfl, rfl⟩, rfl, by simp [setCells_len], awp_ret ⟨.inl rfl, retC (l := true) rfl rfl rfl rfl⟩⟩

theorem retCC {T : Tab} {c1 c2 t b1 b2 : Nat} {s : St} {cs1 cs2 : List D} {l1 l2 : Bool} (h1 : s.get c1 = .ptr b1 0) (h2 : s.blk b1 = some ⟨cs1, l1⟩) (h3 : s.get c2 = .ptr b2 0) (h4 : s.blk b2 = some ⟨cs2, l2⟩)
    (ha : Tab.agg T t = true) (hs1 : T.size t = cs1.length) (hs2 : T.size t = cs2.length) : RetOk T [.cell c1 t, .cell c2 t] (.tup [.agg cs1, .agg cs2]) [] s := by
  unfold RetOk evalRes
  rw [h1]
  simp only [h2, ha, if_true, evalRes, h3, h4]
  refine ⟨by omega, by omega, .inl ⟨?_, trivial⟩⟩
  rw [List.drop_zero, List.drop_zero, hs1, List.take_of_length_le (Nat.le_refl _), ← hs1, hs2, List.take_of_length_le (Nat.le_refl _)]
  rfl

end Go.Abs

set_option linter.unusedVariables false
set_option linter.unusedSimpArgs false
namespace Go.Abs
open Go Go.Proofs Poly
set_option maxRecDepth 100000

end Go.Abs

set_option linter.unusedVariables false
set_option linter.unusedSimpArgs false
namespace Go.Abs
open Go Go.Proofs
set_option maxRecDepth 100000

/-- Make for a positive denominator -/
theorem rmake_fn (s : Bool) (l m : List Nat) (hl1 : l.length ≤ 2 ^ 38) (hm1 : m.length ≤ 2 ^ 38) (dl : Dg l) (dm : Dg m) (h0 : val m ≠ 0) :
    Fn Try.prog 110 [.agg (ic s l), .agg (ic false m)] [] (.tup [.agg (rt (rnum (ival s l) (val m)) (rden (ival s l) (val m))), .d (.int .i64 0)]) [] := by
  refine fn0 (nt := 18) (res := [.cell 4 78, .tmp 5]) Try.func110 rfl (by decide) rfl rfl rfl rfl ?_
  intro Cx hP hnt hl
  have hz := isZero_fn m (by omega) dm
  rw [decide_eq_false h0] at hz
  have hm := rmade_fn s l m hl1 hm1 dl dm
  refine awp_sx prog_ok hP hnt [] [] [] [2, 3, 4] (by kernel_rfl) (G := fun K => K (St.mk [(2, V.ptr 0 0), (3, V.ptr 1 0), (4, V.ptr 2 0)] [(0, some (Blk.mk [D.bool s, du l] true)), (1, some (Blk.mk [D.bool false, du m] true)), (2, some (Blk.mk [D.bool false, D.lst 0 [], D.lst 0 []] true))] 4)) (fun K => by kernel_rfl) ?_
  refine awp_seq_k fun K hK => ?_
  refine awp_sx prog_ok hP hnt [] [.val (.d (.bool false))] [some [du m]] [2, 3, 4, 8] (by kernel_rfl) (G := fun K => [D.bool false, du m][1]? = some (du m) ∧ Fn Try.prog 187 [V.d (du m)] [] (V.d (D.bool false)) [] ∧ K (St.mk [(2, V.ptr 0 0), (3, V.ptr 1 0), (4, V.ptr 2 0), (8, V.d (D.bool false))] [(0, some (Blk.mk [D.bool s, du l] true)), (1, some (Blk.mk [D.bool false, du m] true)), (2, some (Blk.mk [D.bool false, D.lst 0 [], D.lst 0 []] true))] 7)) (fun K => by kernel_rfl) ?_
  refine ⟨rfl, hz, awp_cond (b := false) rfl nofun fun _ => awp_skip (hK _ ?_)⟩
  refine awp_seq_k fun K2 hK2 => ?_
  refine awp_sx prog_ok hP hnt [] [] [some [.bool false]] [2, 3, 4, 11] (by kernel_rfl) (G := fun K => [D.bool false, du m][0]? = some (D.bool false) ∧ K (St.mk [(2, V.ptr 0 0), (3, V.ptr 1 0), (4, V.ptr 2 0), (11, V.d (D.bool false))] [(0, some (Blk.mk [D.bool s, du l] true)), (1, some (Blk.mk [D.bool false, du m] true)), (2, some (Blk.mk [D.bool false, D.lst 0 [], D.lst 0 []] true))] 9)) (fun K => by kernel_rfl) ?_
  refine ⟨rfl, awp_cond (b := false) rfl nofun fun _ => awp_skip (hK2 _ ?_)⟩
  refine awp_sx prog_ok hP hnt [] [.val (.agg (rt (rnum (ival s l) (val m)) (rden (ival s l) (val m))))] [some (ic s l), some [du m]] [4, 5] (by kernel_rfl) (G := fun K => ([D.bool s, du l][0]? = some (D.bool s) ∧ [D.bool s, du l][1]? = some (du l)) ∧ [D.bool false, du m][1]? = some (du m) ∧ Fn Try.prog 185 [V.agg [D.bool s, du l], V.d (du m)] [] (V.agg [D.bool (decide (rnum (ival s l) (val m) < (0 : Int))), du (dig (rnum (ival s l) (val m)).natAbs), du (dig (rden (ival s l) (val m)))]) [] ∧ 0 + (rt (rnum (ival s l) (val m)) (rden (ival s l) (val m))).length ≤ [D.bool false, D.lst 0 [], D.lst 0 []].length ∧ K (St.mk [(4, V.ptr 2 0), (5, V.d (D.int IntKind.i64 (0 : Int)))] [(0, some (Blk.mk [D.bool s, du l] true)), (1, some (Blk.mk [D.bool false, du m] true)), (2, some (Blk.mk [D.bool (decide (rnum (ival s l) (val m) < (0 : Int))), du (dig (rnum (ival s l) (val m)).natAbs), du (dig (rden (ival s l) (val m)))] true))] 15)) (fun K => by kernel_rfl) ?_
  exact ⟨⟨rfl, rfl⟩, rfl, hm, by simp [rt], awp_ret ⟨.inl rfl, retCT (l1 := true) rfl rfl rfl rfl rfl⟩⟩

end Go.Abs

set_option linter.unusedVariables false
set_option linter.unusedSimpArgs false
namespace Go.Abs
open Go Go.Proofs Poly
set_option maxRecDepth 100000

end Go.Abs

set_option linter.unusedVariables false
set_option linter.unusedSimpArgs false
namespace Go.Abs
open Go Go.Proofs Poly
set_option maxRecDepth 100000

/-- sign changes among the first values, and the last value other than 0 -/
def vr (F : Nat → Int) : Nat → Nat × Int
  | 0 => (0, 0)
  | k + 1 => if F k = 0 then vr F k else (if (vr F k).2 ≠ 0 ∧ (vr F k).2.sign ≠ (F k).sign then (vr F k).1 + 1 else (vr F k).1, F k)
noncomputable def vars (f : Poly) : Nat := (vr f.c f.sz).1

end Go.Abs

set_option linter.unusedVariables false
set_option linter.unusedSimpArgs false
namespace Go.Abs
open Go Go.Proofs Poly
set_option maxRecDepth 100000

end Go.Abs

set_option linter.unusedVariables false
set_option linter.unusedSimpArgs false
namespace Go.Abs
open Go Go.Proofs Poly
set_option maxRecDepth 100000

/-- Horner's scheme for f(x + c): the coefficients after k steps -/
def hn (F : Nat → Int) (L : Nat) (c : Int) : Nat → Nat → Int
  | 0, _ => 0
  | k + 1, i => (if i = 0 then F (L - 1 - k) else hn F L c k (i - 1)) + c * hn F L c k i
def hS : Nat → Nat
  | 0 => 0
  | k + 1 => 129 * hS k + 100
/-- the next row while it is filled -/
def nx (o : Nat → Int) (c : Int) (j i : Nat) : Int := if i < j then (if i = 0 then 0 else o (i - 1)) + c * o i else if i = j ∧ i ≠ 0 then o (i - 1) else 0

end Go.Abs

set_option linter.unusedVariables false
set_option linter.unusedSimpArgs false
namespace Go.Abs
open Go Go.Proofs Poly
set_option maxRecDepth 100000

end Go.Abs

set_option linter.unusedVariables false
set_option linter.unusedSimpArgs false
namespace Go.Abs
open Go Go.Proofs Poly
set_option maxRecDepth 100000

end Go.Abs

set_option linter.unusedVariables false
set_option linter.unusedSimpArgs false
namespace Go.Abs
open Go Go.Proofs Poly
set_option maxRecDepth 100000

end Go.Abs

set_option linter.unusedVariables false
set_option linter.unusedSimpArgs false
namespace Go.Abs
open Poly

/-! ### Values at fractions -/
def evr (c : Nat → Int) : Nat → Rat → Rat
  | 0, _ => 0
  | n + 1, x => (c 0 : Rat) + x * evr (fun k => c (k + 1)) n x
noncomputable def evQ (f : Poly) (x : Rat) : Rat := evr f.c f.sz x
/-! ### With a common denominator -/
def hb (c : Nat → Int) : Nat → Int → Int → Int
  | 0, _, _ => 0
  | n + 1, x, d => c 0 * d ^ n + x * hb (fun k => c (k + 1)) n x d
/-- what is left above number i -/
def hbt (c : Nat → Int) (n i : Nat) (x d : Int) : Int := hb (fun k => c (i + k)) (n - i) x d
theorem hbt_top (c : Nat → Int) (n : Nat) (x d : Int) : hbt c n n x d = 0 := by rw [hbt, Nat.sub_self]; rfl
theorem hbt_zero (c : Nat → Int) (n : Nat) (x d : Int) : hbt c n 0 x d = hb c n x d := by
  rw [hbt, Nat.sub_zero]; congr 1; funext k; rw [Nat.zero_add]
theorem hbt_step (c : Nat → Int) {n i : Nat} (h : i < n) (x d : Int) : hbt c n i x d = hbt c n (i + 1) x d * x + d ^ (n - 1 - i) * c i := by
  rw [hbt, hbt, show n - i = (n - (i + 1)) + 1 by omega, hb, show n - 1 - i = n - (i + 1) by omega, Nat.add_zero,
    show (fun k => c (i + (k + 1))) = (fun k => c (i + 1 + k)) from funext fun k => by congr 1; omega]
  grind
theorem hb_evr {x d : Int} (hd : d ≠ 0) : ∀ (n : Nat) (c : Nat → Int), ((hb c (n + 1) x d : Int) : Rat) = (d : Rat) ^ n * evr c (n + 1) ((x : Rat) / d)
  | 0, c => by simp only [hb, evr]; grind
  | n + 1, c => by
    have hd' : (d : Rat) ≠ 0 := by
      intro h; exact hd (by exact_mod_cast h)
    have ih := hb_evr (x := x) hd n (fun k => c (k + 1))
    rw [hb, evr, Rat.intCast_add, Rat.intCast_mul, Rat.intCast_mul, Rat.intCast_pow, ih]
    have e : (x : Rat) = (x : Rat) / d * d := (Rat.div_mul_cancel hd').symm
    generalize (x : Rat) / d = y at *
    rw [e]
    grind
theorem hb_evQ (f : Poly) (q : Rat) : ((hb f.c f.sz q.num q.den : Int) : Rat) = (((q.den : Int) : Rat)) ^ (f.sz - 1) * evQ f q := by
  rcases Nat.eq_zero_or_pos f.sz with h | h
  · rw [evQ, h]; simp only [hb, evr]; grind
  · obtain ⟨n, hn⟩ : ∃ n, f.sz = n + 1 := ⟨f.sz - 1, by omega⟩
    rw [evQ, hn, hb_evr (by have := q.den_nz; omega), Nat.add_sub_cancel]
    congr 2
    have := Rat.mkRat_self q
    rw [Rat.mkRat_eq_div] at this
    exact this
theorem hb_mk (f : Poly) (q : Rat) : mkRat (hb f.c f.sz q.num q.den) (q.den ^ (f.sz - 1)) = evQ f q := by
  have h := hb_evQ f q
  have hd : (((q.den : Int) : Rat)) ≠ 0 := by intro h; have := q.den_nz; exact this (by exact_mod_cast h)
  rw [Rat.mkRat_eq_div, h]
  have hp : (((q.den : Int) : Rat)) ^ (f.sz - 1) ≠ 0 := by
    have : 0 < (((q.den : Int) : Rat)) := Rat.intCast_pos.2 (by have := q.den_pos; omega)
    exact Ne.symm (Rat.ne_of_lt (Rat.pow_pos this))
  rw [show (((q.den ^ (f.sz - 1) : Nat)) : Rat) = (((q.den : Int) : Rat)) ^ (f.sz - 1) by push_cast; rfl]
  generalize (((q.den : Int) : Rat)) ^ (f.sz - 1) = P at *
  rw [Rat.mul_comm, Rat.mul_div_cancel hp]
theorem mkRat_sign (n : Int) {d : Nat} (h : d ≠ 0) : (mkRat n d).num.sign = n.sign := by
  rw [Rat.num_mkRat, if_neg h]
  have hg : (0 : Int) < (d.gcd n.natAbs : Nat) := by have := Nat.gcd_pos_of_pos_left n.natAbs (Nat.pos_of_ne_zero h); omega
  have hdv : ((d.gcd n.natAbs : Nat) : Int) ∣ n := Int.ofNat_dvd_left.2 (Nat.gcd_dvd_right _ _)
  generalize ((d.gcd n.natAbs : Nat) : Int) = g at *
  obtain ⟨m, rfl⟩ := hdv
  rw [Int.mul_ediv_cancel_left _ (by omega), Int.sign_mul, Int.sign_eq_one_of_pos hg, Int.one_mul]
theorem hb_sign (f : Poly) (q : Rat) : (hb f.c f.sz q.num q.den).sign = (evQ f q).num.sign := by
  rw [← hb_mk, mkRat_sign]
  exact Nat.ne_of_gt (Nat.pow_pos q.den_pos)

/-! ### Sizes -/
def Qb (K : Nat) (q : Rat) : Prop := q.num.natAbs < 2 ^ K ∧ q.den < 2 ^ K
theorem Qb.mono {K L : Nat} {q : Rat} (h : Qb K q) (hK : K ≤ L) : Qb L q := ⟨Nat.lt_of_lt_of_le h.1 (pw hK), Nat.lt_of_lt_of_le h.2 (pw hK)⟩
theorem mkRat_b {n : Int} {d K : Nat} (hn : n.natAbs < 2 ^ K) (hd : d < 2 ^ K) (h1 : 1 ≤ K) : Qb K (mkRat n d) := by
  have hk := pw h1
  refine ⟨?_, ?_⟩
  · rw [Rat.num_mkRat]
    split
    · rw [Int.natAbs_zero]; omega
    · exact Nat.lt_of_le_of_lt (by rw [Int.natAbs_ediv_of_dvd (Int.ofNat_dvd_left.2 (Nat.gcd_dvd_right _ _))]; exact Nat.div_le_self _ _) hn
  · rw [Rat.den_mkRat]
    split
    · omega
    · exact Nat.lt_of_le_of_lt (Nat.div_le_self _ _) hd
theorem Qb.add {K L : Nat} {a b : Rat} (ha : Qb K a) (hb : Qb L b) : Qb (K + L + 1) (a + b) := by
  rw [Rat.add_def']
  refine mkRat_b ?_ ?_ (by omega)
  · have h1 := mul_lt2 ha.1 hb.2
    have h2 := mul_lt2 hb.1 ha.2
    have := Int.natAbs_add_le (a.num * b.den) (b.num * a.den)
    rw [Int.natAbs_mul, Int.natAbs_mul, Int.natAbs_natCast, Int.natAbs_natCast] at this
    rw [Nat.add_comm L K] at h2
    rw [Nat.pow_succ]; omega
  · have h1 := mul_lt2 ha.2 hb.2
    rw [Nat.pow_succ]; omega
theorem Qb.mul {K L : Nat} {a b : Rat} (ha : Qb K a) (hb : Qb L b) : Qb (K + L + 1) (a * b) := by
  rw [Rat.mul_def']
  refine mkRat_b ?_ ?_ (by omega)
  · have h1 := mul_lt2 ha.1 hb.1
    rw [Int.natAbs_mul, Nat.pow_succ]; omega
  · have h1 := mul_lt2 ha.2 hb.2
    rw [Nat.pow_succ]; omega
theorem pow_b {x : Int} {L : Nat} (hx : x.natAbs < 2 ^ L) : ∀ n, (x ^ n).natAbs < 2 ^ (n * L + 1)
  | 0 => by rw [Int.pow_zero, Nat.zero_mul]; decide
  | n + 1 => by
    rw [Int.pow_succ, Int.natAbs_mul, show (n + 1) * L + 1 = (n * L + 1) + L by rw [Nat.succ_mul]; omega]
    exact mul_lt2 (pow_b hx n) hx
theorem hb_b {K L : Nat} {x d : Int} (hx : x.natAbs < 2 ^ L) (hd : d.natAbs < 2 ^ L) : ∀ (n : Nat) {c : Nat → Int}, (∀ k, (c k).natAbs < 2 ^ K) → (hb c n x d).natAbs < 2 ^ (K + n * (L + 1) + 1)
  | 0, c, _ => Nat.pow_pos (by omega)
  | n + 1, c, hc => by
    have ih := hb_b (K := K) hx hd n (c := fun k => c (k + 1)) (fun k => hc _)
    have h1 := mul_lt2 (hc 0) (pow_b hd n)
    have h2 := mul_lt2 hx ih
    rw [hb]
    have := Int.natAbs_add_le (c 0 * d ^ n) (x * hb (fun k => c (k + 1)) n x d)
    rw [Int.natAbs_mul, Int.natAbs_mul] at this
    have h3 : 2 ^ (K + (n * L + 1)) ≤ 2 ^ (K + n * (L + 1) + 1 + L) := pw (by rw [Nat.mul_add]; omega)
    have h4 : 2 ^ (K + (n + 1) * (L + 1) + 1) = 2 ^ (K + n * (L + 1) + 1 + L) * 2 := by rw [← Nat.pow_succ]; congr 1; rw [Nat.succ_mul]; omega
    rw [Nat.add_comm L] at h2
    rw [h4]; omega
theorem hbt_b {K L : Nat} {x d : Int} (hx : x.natAbs < 2 ^ L) (hd : d.natAbs < 2 ^ L) {n i : Nat} {c : Nat → Int} (hc : ∀ k, (c k).natAbs < 2 ^ K) : (hbt c n i x d).natAbs < 2 ^ (K + n * (L + 1) + 1) := by
  refine Nat.lt_of_lt_of_le (hb_b (K := K) hx hd (n - i) fun k => hc _) (pw ?_)
  have := Nat.mul_le_mul_right (L + 1) (show n - i ≤ n by omega)
  omega
/-! ### The sign beyond a bound -/
end Go.Abs
namespace Go.Abs
open Poly
end Go.Abs

set_option linter.unusedVariables false
set_option linter.unusedSimpArgs false
namespace Go.Abs
open Go Go.Proofs Poly
set_option maxRecDepth 100000

/-! ### Fractions of the program -/
def rr (s : Bool) (l m : List Nat) : List D := [.bool s, du l, du m]
def rq (q : Rat) : List D := rt q.num q.den
/-- a fraction as it lies -/
def RR (K : Nat) (r : List D) (q : Rat) : Prop := ∃ s l m, r = rr s l m ∧ Dg l ∧ Dg m ∧ l.length ≤ K ∧ m.length ≤ K ∧ mkRat (ival s l) (val m) = q
theorem rnum_mk (x : Int) (d : Nat) : rnum x d = (mkRat x d).num := by
  rw [Rat.num_mkRat]
  unfold rnum
  split
  · rfl
  · rw [Nat.gcd_comm, Int.tdiv_eq_ediv_of_dvd (Int.ofNat_dvd_left.2 (Nat.gcd_dvd_right _ _))]
theorem rden_mk (x : Int) (d : Nat) : rden x d = (mkRat x d).den := by
  rw [Rat.den_mkRat]
  unfold rden
  split
  · rfl
  · rw [Nat.gcd_comm]
theorem digb {n K : Nat} (h : n < 2 ^ K) (hK : K ≤ 2 ^ 40) : (dig n).length ≤ 2 ^ 36 := by
  have := (riz_bits (z := (n : Int)) (K := K) (by simpa using h) hK).2
  have h9 : (riz (n : Int)).2 = dig n := by show dig (n : Int).natAbs = _; rw [Int.natAbs_natCast]
  rwa [h9] at this
theorem val_lt2 {l : List Nat} {K : Nat} (h : Dg l) (hl : l.length ≤ K) : val l < 2 ^ (32 * K) := by
  have h1 := val_lt h
  rw [show (4294967296 : Nat) = 2 ^ 32 by rfl, ← Nat.pow_mul] at h1
  exact Nat.lt_of_lt_of_le h1 (pw (by omega))

end Go.Abs

set_option linter.unusedVariables false
set_option linter.unusedSimpArgs false
namespace Go.Abs
open Go Go.Proofs Poly
set_option maxRecDepth 100000

theorem normalR {K : Nat} {r : List D} {q : Rat} (h : RR K r q) (hK : K ≤ 2 ^ 38) : Fn Try.prog 226 [.agg r] [] (.agg (rq q)) [] := by
  obtain ⟨s, l, m, rfl, dl, dm, hl1, hm1, rfl⟩ := h
  refine fn0 (nt := 8) (res := [.cell 2 78]) Try.func226 rfl (by decide) rfl rfl rfl rfl ?_
  intro Cx hP hnt hl
  have hq := rmade_fn s l m (by omega) (by omega) dl dm
  rw [rnum_mk, rden_mk] at hq
  refine awp_sx prog_ok hP hnt [] [] [] [1, 2] (by kernel_rfl) (G := fun K => K (St.mk [(1, V.ptr 0 0), (2, V.ptr 1 0)] [(0, some (Blk.mk [D.bool s, du l, du m] true)), (1, some (Blk.mk [D.bool false, D.lst 0 [], D.lst 0 []] true))] 2)) (fun K => by kernel_rfl) ?_
  refine awp_sx prog_ok hP hnt [] [.val (.agg (rq (mkRat (ival s l) (val m))))] [some (ic s l), some [du m]] [2] (by kernel_rfl) (G := fun K => ([D.bool s, du l, du m][0]? = some (D.bool s) ∧ [D.bool s, du l, du m][1]? = some (du l)) ∧ [D.bool s, du l, du m][2]? = some (du m) ∧ Fn Try.prog 185 [V.agg [D.bool s, du l], V.d (du m)] [] (V.agg [D.bool (decide ((mkRat (ival s l) (val m)).num < (0 : Int))), du (dig (mkRat (ival s l) (val m)).num.natAbs), du (dig (mkRat (ival s l) (val m)).den)]) [] ∧ 0 + (rq (mkRat (ival s l) (val m))).length ≤ [D.bool false, D.lst 0 [], D.lst 0 []].length ∧ K (St.mk [(2, V.ptr 1 0)] [(0, some (Blk.mk [D.bool s, du l, du m] true)), (1, some (Blk.mk [D.bool (decide ((mkRat (ival s l) (val m)).num < (0 : Int))), du (dig (mkRat (ival s l) (val m)).num.natAbs), du (dig (mkRat (ival s l) (val m)).den)] true))] 8)) (fun K => by kernel_rfl) ?_
  exact ⟨⟨rfl, rfl⟩, rfl, hq, by simp [rq, rt], awp_ret ⟨.inl rfl, retC (l := true) rfl rfl rfl rfl⟩⟩

theorem scaledR {KR n K L : Nat} {i : Nat} {ps : List RI} {r : List D} {q : Rat} (hi : i ≤ 12) (hp : W i ps) (hf : Bd n K (pol ps)) (hr : RR KR r q) (hKR : KR ≤ 2 ^ 38) (hq : Qb L q) (hB : K + n * (L + 1) + 1 ≤ 2 ^ 36) :
    Fn Try.prog 178 [.d (rp ps), .agg r] [] (.tup [.agg (iz (((q.den ^ ((pol ps).sz - 1) : Nat)) : Int)), .agg (iz (hb (pol ps).c (pol ps).sz q.num q.den))]) [] := by
  have hn := normalR hr hKR
  obtain ⟨s, l, m, rfl, _⟩ := hr
  have h2 := lim2 hi
  have h4 := lim4 hi
  have hln := hp.len
  have ht := trimW hi hp
  obtain ⟨f, hfe⟩ : ∃ f, f = pol ps := ⟨_, rfl⟩
  have htl : (rtrim ps).length = f.sz := by rw [rtrim_lenp, hfe]
  have htg := fun k => rtrim_cp ps k
  rw [← hfe] at htg hf ⊢
  obtain ⟨N, hN⟩ : ∃ N, N = f.sz := ⟨_, rfl⟩
  have hfs : N ≤ n := hN ▸ hf.len
  have hps : N ≤ ps.length := by rw [hN, hfe]; exact pol_sz ps
  rw [← hN] at htl htg ⊢
  obtain ⟨x, hx⟩ : ∃ x, x = q.num := ⟨_, rfl⟩
  obtain ⟨d, hd⟩ : ∃ d, d = q.den := ⟨_, rfl⟩
  have hxb : x.natAbs < 2 ^ L := hx ▸ hq.1
  have hdb : d < 2 ^ L := hd ▸ hq.2
  have hrq : rq q = rt x d := by rw [hx, hd]; rfl
  rw [hrq] at hn
  rw [← hx, ← hd]
  have hLs : n * (L + 1) = n * L + n := by rw [Nat.mul_add, Nat.mul_one]
  have hpb : ∀ k, k ≤ N → ((d ^ k : Nat) : Int).natAbs < 2 ^ (n * L + 1) := fun k hk => by
    have h1 := pow_b (x := (d : Int)) (L := L) (by rw [Int.natAbs_natCast]; exact hdb) k
    rw [← Int.natCast_pow] at h1
    exact Nat.lt_of_lt_of_le h1 (pw (by have := Nat.mul_le_mul_right L (show k ≤ n by omega); omega))
  have hhb : ∀ k, (hbt f.c N k x d).natAbs < 2 ^ (K + n * (L + 1) + 1) := fun k => Nat.lt_of_lt_of_le (hbt_b (K := K) hxb (by rw [Int.natAbs_natCast]; exact hdb) hf.ok) (pw (by have := Nat.mul_le_mul_right (L + 1) hfs; omega))
  have h1 := iOf_fn 1 (by decide) (by decide)
  refine fn0 (nt := 44) (res := [.cell 4 46, .cell 5 46]) Try.func178 rfl (by decide) rfl rfl rfl rfl ?_
  intro Cx hP hnt hl
  refine awp_sx prog_ok hP hnt [] [] [] [0, 3, 4, 5] (by kernel_rfl) (G := fun K => K (St.mk [(0, V.d (rp ps)), (3, V.ptr 0 0), (4, V.ptr 1 0), (5, V.ptr 2 0)] [(0, some (Blk.mk [D.bool s, du l, du m] true)), (1, some (Blk.mk [D.bool false, D.lst 0 []] true)), (2, some (Blk.mk [D.bool false, D.lst 0 []] true))] 3)) (fun K => by kernel_rfl) ?_
  refine awp_sx prog_ok hP hnt [] [.val (.d (rp (rtrim ps))), .val (.agg (rt x d))] [some (rr s l m)] [0, 3, 4, 5] (by kernel_rfl) (G := fun K => Fn Try.prog 161 [V.d (rp ps)] [] (V.d (rp (rtrim ps))) [] ∧ ([D.bool s, du l, du m][0]? = some (D.bool s) ∧ [D.bool s, du l, du m][1]? = some (du l) ∧ [D.bool s, du l, du m][2]? = some (du m)) ∧ Fn Try.prog 226 [V.agg [D.bool s, du l, du m]] [] (V.agg [D.bool (decide (x < (0 : Int))), du (dig x.natAbs), du (dig d)]) [] ∧ 0 + (rt x d).length ≤ [D.bool s, du l, du m].length ∧ K (St.mk [(0, V.d (rp (rtrim ps))), (3, V.ptr 0 0), (4, V.ptr 1 0), (5, V.ptr 2 0)] [(0, some (Blk.mk [D.bool (decide (x < (0 : Int))), du (dig x.natAbs), du (dig d)] true)), (1, some (Blk.mk [D.bool false, D.lst 0 []] true)), (2, some (Blk.mk [D.bool false, D.lst 0 []] true))] 9)) (fun K => by kernel_rfl) ?_
  refine ⟨ht, ⟨rfl, rfl, rfl⟩, hn, by simp [rt], ?_⟩
  refine awp_sx prog_ok hP hnt [] [.val (.agg (iz 1))] [] [0, 3, 4, 5, 6, 7] (by kernel_rfl) (G := fun K => Fn Try.prog 74 [V.d (D.int IntKind.i64 (1 : Int))] [] (V.agg [D.bool (decide ((1 : Int) < (0 : Int))), du (dig (Int.natAbs (1 : Int)))]) [] ∧ 2 ≤ (TI.mk (Kind.struct [(0, 1), (1, 1)]) 2 32 [D.bool false, D.lst 0 []]).zero.length ∧ 2 ≤ (TI.mk (Kind.struct [(0, 1), (1, 1)]) 2 32 [D.bool false, D.lst 0 []]).zero.length ∧ K (St.mk [(0, V.d (rp (rtrim ps))), (3, V.ptr 0 0), (4, V.ptr 1 0), (5, V.ptr 2 0), (6, V.ptr 11 0), (7, V.ptr 12 0)] [(0, some (Blk.mk [D.bool (decide (x < (0 : Int))), du (dig x.natAbs), du (dig d)] true)), (1, some (Blk.mk [D.bool false, D.lst 0 []] true)), (2, some (Blk.mk [D.bool false, D.lst 0 []] true)), (11, some (Blk.mk [D.bool false, D.lst 0 []] true)), (12, some (Blk.mk [D.bool (decide ((1 : Int) < (0 : Int))), du (dig (Int.natAbs (1 : Int)))] true))] 15)) (fun K => by kernel_rfl) ?_
  refine ⟨h1, by simp [setCells_len], by simp [iz], ?_⟩
  refine awp_sx prog_ok hP hnt [] [] [some [du (dig d)]] [0, 3, 4, 5, 6, 7, 8] (by kernel_rfl) (G := fun K => [D.bool (decide (x < (0 : Int))), du (dig x.natAbs), du (dig d)][2]? = some (du (dig d)) ∧ 0 + (setCells (TI.mk (Kind.struct [(0, 1), (1, 1)]) 2 32 [D.bool false, D.lst 0 []]).zero 1 [du (dig d)]).length ≤ (TI.mk (Kind.struct [(0, 1), (1, 1)]) 2 32 [D.bool false, D.lst 0 []]).zero.length ∧ K (St.mk [(0, V.d (rp (rtrim ps))), (3, V.ptr 0 0), (4, V.ptr 1 0), (5, V.ptr 2 0), (6, V.ptr 11 0), (7, V.ptr 12 0), (8, V.ptr 18 0)] [(0, some (Blk.mk [D.bool (decide (x < (0 : Int))), du (dig x.natAbs), du (dig d)] true)), (1, some (Blk.mk [D.bool false, D.lst 0 []] true)), (2, some (Blk.mk [D.bool false, D.lst 0 []] true)), (11, some (Blk.mk [D.bool false, D.lst 0 []] true)), (12, some (Blk.mk [D.bool (decide ((1 : Int) < (0 : Int))), du (dig (Int.natAbs (1 : Int)))] true)), (18, some (Blk.mk [D.bool false, du (dig d)] true))] 20)) (fun K => by kernel_rfl) ?_
  refine ⟨rfl, by simp [setCells_len], ?_⟩
  have ed : [D.bool false, du (dig d)] = iz (d : Int) := by rw [iz_nat']; rfl
  rw [ed]
  refine awp_cut (ι := Unit) (fun _ => ⟨[(4, .ptr 0 0), (5, .ptr 1 0), (6, .ptr 2 0), (7, .ptr 3 0)], [(0, some ⟨[.bool false, .lst 0 []], true⟩), (1, some ⟨[.bool false, .lst 0 []], true⟩), (2, some ⟨iz (hb f.c N x d), true⟩), (3, some ⟨iz ((d ^ (N - 1) : Nat) : Int), true⟩)], 4⟩) (fun _ => True) ?_ ?_
  · refine awp_sx prog_ok hP hnt [(21, .int .i64 ((N : Int) - 1))] [] [] [0, 3, 4, 5, 6, 7, 8, 9] (by kernel_rfl) (G := fun K => IntKind.i64.wrap ((↑(rtrim ps).length : Int) - (1 : Int)) = (↑N : Int) - (1 : Int) ∧ K (St.mk [(0, V.d (rp (rtrim ps))), (3, V.ptr 0 0), (4, V.ptr 1 0), (5, V.ptr 2 0), (6, V.ptr 11 0), (7, V.ptr 12 0), (8, V.ptr 18 0), (9, V.d (D.int IntKind.i64 ((↑N : Int) - (1 : Int))))] [(0, some (Blk.mk [D.bool (decide (x < (0 : Int))), du (dig x.natAbs), du (dig d)] true)), (1, some (Blk.mk [D.bool false, D.lst 0 []] true)), (2, some (Blk.mk [D.bool false, D.lst 0 []] true)), (11, some (Blk.mk [D.bool false, D.lst 0 []] true)), (12, some (Blk.mk [D.bool (decide ((1 : Int) < (0 : Int))), du (dig (Int.natAbs (1 : Int)))] true)), (18, some (Blk.mk [D.bool (decide ((↑d : Int) < (0 : Int))), du (dig (↑d : Int).natAbs)] true))] 24)) (fun K => by kernel_rfl) ?_
    refine ⟨by rw [htl, w64] <;> omega, ?_⟩
    refine awp_block ?_
    refine awp_loop (ι := Nat) (fun j => ⟨[(0, .d (rp (rtrim ps))), (3, .ptr 0 0), (4, .ptr 1 0), (5, .ptr 2 0), (6, .ptr 3 0), (7, .ptr 4 0), (8, .ptr 5 0), (9, .d (.int .i64 ((N : Int) - 1 - j)))],
        [(0, some ⟨rt x d, true⟩), (1, some ⟨[.bool false, .lst 0 []], true⟩), (2, some ⟨[.bool false, .lst 0 []], true⟩), (3, some ⟨iz (hbt f.c N (N - j) x d), true⟩), (4, some ⟨iz ((d ^ (min j (N - 1)) : Nat) : Int), true⟩), (5, some ⟨iz (d : Int), true⟩)], 6⟩)
      (fun j => j ≤ N) (fun j => N - j) 0 [(0, 0), (1, 1), (2, 2), (3, 11), (4, 12), (5, 18)] (by omega) ?_ ?_
    · have e1 : iz (hbt f.c N N x d) = [.bool false, .lst 0 []] := by rw [hbt_top]; simp [iz, dig_zero, du, u32s]
      have e2 : ((d ^ (min 0 (N - 1)) : Nat) : Int) = 1 := by rw [Nat.zero_min]; rfl
      rw [Nat.sub_zero, e1, e2]
      (constructor <;> simp [hl, envOk, memOk, conv, St.get, St.blk, iz, rt])
    intro j hj
    refine awp_seq_k fun K1 hK1 => ?_
    refine awp_sx prog_ok hP hnt [] [] [] [0, 3, 4, 5, 6, 7, 8, 9, 23] (by kernel_rfl) (G := fun K => K (St.mk [(0, V.d (rp (rtrim ps))), (3, V.ptr 0 0), (4, V.ptr 1 0), (5, V.ptr 2 0), (6, V.ptr 3 0), (7, V.ptr 4 0), (8, V.ptr 5 0), (9, V.d (D.int IntKind.i64 ((↑N : Int) - (1 : Int) - (↑j : Int)))), (23, V.d (D.bool (decide ((↑N : Int) - (1 : Int) - (↑j : Int) ≥ (0 : Int)))))] [(0, some (Blk.mk [D.bool (decide (x < (0 : Int))), du (dig x.natAbs), du (dig d)] true)), (1, some (Blk.mk [D.bool false, D.lst 0 []] true)), (2, some (Blk.mk [D.bool false, D.lst 0 []] true)), (3, some (Blk.mk [D.bool (decide (hbt f.c N (N - j) x (↑d : Int) < (0 : Int))), du (dig (hbt f.c N (N - j) x (↑d : Int)).natAbs)] true)), (4, some (Blk.mk [D.bool (decide ((↑(d ^ min j (N - 1)) : Int) < (0 : Int))), du (dig (↑(d ^ min j (N - 1)) : Int).natAbs)] true)), (5, some (Blk.mk [D.bool (decide ((↑d : Int) < (0 : Int))), du (dig (↑d : Int).natAbs)] true))] 8)) (fun K => by kernel_rfl) ?_
    refine awp_cond rfl (fun e => awp_skip (hK1 _ ?_)) (fun e => awp_exit ⟨(), [(0, 1), (1, 2), (2, 3), (3, 4)], trivial, ?_⟩)
    · simp at e
      have ej : (N : Int) - 1 - j = ((N - 1 - j : Nat) : Int) := by omega
      rw [ej]
      have hjm : min j (N - 1) = j := by omega
      rw [hjm]
      obtain ⟨i0, hi0⟩ : ∃ i0, i0 = N - 1 - j := ⟨_, rfl⟩
      rw [← hi0]
      obtain ⟨p, hp1⟩ := get_ex (l := ps) (i := i0) (by omega)
      have hp2 : (rtrim ps)[i0]? = some p := by rw [htg, if_pos (by omega), hp1]
      have hpo := hp.ok p (List.mem_of_getElem? hp1)
      have hfx : ival p.1 p.2 = f.c i0 := by rw [hfe, pol_c, co_some hp1]; rfl
      have hst := hbt_step f.c (n := N) (i := i0) (by omega) x d
      rw [show i0 + 1 = N - j by omega, show N - 1 - i0 = j by omega, ← Int.natCast_pow] at hst
      obtain ⟨A, hA⟩ : ∃ A, A = hbt f.c N (N - j) x d := ⟨_, rfl⟩
      have hAb := hhb (N - j)
      rw [← hA] at hst hAb ⊢
      have hPb := hpb j (by omega)
      have hPb2 := hpb (j + 1) (by omega)
      obtain ⟨P, hP0⟩ : ∃ P, P = d ^ j := ⟨_, rfl⟩
      have hPs : d ^ (j + 1) = P * d := by rw [hP0, Nat.pow_succ]
      rw [← hP0] at hst hPb ⊢
      have hL1 : n * L ≤ 2 ^ 36 := by omega
      have hn1 : 1 ≤ n := by omega
      have hL2 : L ≤ n * L := Nat.le_mul_of_pos_left L hn1
      have m1 := mulI hAb hxb (by omega) (by omega)
      have m2 := mulI3 (s := p.1) (l := p.2) (y := (P : Int)) (L := n * L + 1) hpo.1 (by have := hpo.2; omega) hPb (by omega)
      rw [hfx] at m2
      have b1 : (A * x).natAbs < 2 ^ (K + n * (L + 1) + 1 + L) := by rw [Int.natAbs_mul]; exact mul_lt2 hAb hxb
      have b2 : ((P : Int) * f.c i0).natAbs < 2 ^ (n * L + 1 + K) := by rw [Int.natAbs_mul]; exact mul_lt2 hPb (hf.ok i0)
      have ad := addI b1 b2 (by omega) (by omega)
      rw [← hst] at ad
      refine awp_seq_k fun K2 hK2 => ?_
      refine awp_block ?_
      refine awp_sx prog_ok hP hnt [] [.val (.agg (iz (A * x))), .val (.agg (iz ((P : Int) * f.c i0))), .val (.agg (iz (hbt f.c N i0 x d)))] [some (iz A), some (iz x), some (iz (P : Nat)), some [.bool p.1, du p.2]] [0, 3, 4, 5, 6, 7, 8, 9] (by kernel_rfl) (G := fun K => ([D.bool (decide (A < (0 : Int))), du (dig A.natAbs)][0]? = some (D.bool (decide (A < (0 : Int)))) ∧ [D.bool (decide (A < (0 : Int))), du (dig A.natAbs)][1]? = some (du (dig A.natAbs))) ∧ ([D.bool (decide (x < (0 : Int))), du (dig x.natAbs), du (dig d)][0]? = some (D.bool (decide (x < (0 : Int)))) ∧ [D.bool (decide (x < (0 : Int))), du (dig x.natAbs), du (dig d)][1]? = some (du (dig x.natAbs))) ∧ Fn Try.prog 123 [V.agg [D.bool (decide (A < (0 : Int))), du (dig A.natAbs)], V.agg [D.bool (decide (x < (0 : Int))), du (dig x.natAbs)]] [] (V.agg [D.bool (decide (A * x < (0 : Int))), du (dig (A * x).natAbs)]) [] ∧ ([D.bool (decide ((↑P : Int) < (0 : Int))), du (dig (↑P : Int).natAbs)][0]? = some (D.bool (decide ((↑P : Int) < (0 : Int)))) ∧ [D.bool (decide ((↑P : Int) < (0 : Int))), du (dig (↑P : Int).natAbs)][1]? = some (du (dig (↑P : Int).natAbs))) ∧ ((0 : Int) ≤ (↑i0 : Int) ∧ (↑i0 : Int) < (↑(rtrim ps).length : Int) ∧ ((↑i0 : Int).toNat + 1) * 2 ≤ (rc (rtrim ps)).length) ∧ ((List.drop ((↑i0 : Int).toNat * 2) (rc (rtrim ps)))[0]? = some (D.bool p.fst) ∧ (List.drop ((↑i0 : Int).toNat * 2) (rc (rtrim ps)))[1]? = some (du p.snd)) ∧ Fn Try.prog 123 [V.agg [D.bool (decide ((↑P : Int) < (0 : Int))), du (dig (↑P : Int).natAbs)], V.agg [D.bool p.fst, du p.snd]] [] (V.agg [D.bool (decide ((↑P : Int) * f.c i0 < (0 : Int))), du (dig ((↑P : Int) * f.c i0).natAbs)]) [] ∧ Fn Try.prog 96 [V.agg [D.bool (decide (A * x < (0 : Int))), du (dig (A * x).natAbs)], V.agg [D.bool (decide ((↑P : Int) * f.c i0 < (0 : Int))), du (dig ((↑P : Int) * f.c i0).natAbs)]] [] (V.agg [D.bool (decide (hbt f.c N i0 x (↑d : Int) < (0 : Int))), du (dig (hbt f.c N i0 x (↑d : Int)).natAbs)]) [] ∧ 0 + (iz (hbt f.c N i0 x (↑d : Int))).length ≤ [D.bool (decide (A < (0 : Int))), du (dig A.natAbs)].length ∧ K (St.mk [(0, V.d (rp (rtrim ps))), (3, V.ptr 0 0), (4, V.ptr 1 0), (5, V.ptr 2 0), (6, V.ptr 3 0), (7, V.ptr 4 0), (8, V.ptr 5 0), (9, V.d (D.int IntKind.i64 (↑i0 : Int)))] [(0, some (Blk.mk [D.bool (decide (x < (0 : Int))), du (dig x.natAbs), du (dig d)] true)), (1, some (Blk.mk [D.bool false, D.lst 0 []] true)), (2, some (Blk.mk [D.bool false, D.lst 0 []] true)), (3, some (Blk.mk [D.bool (decide (hbt f.c N i0 x (↑d : Int) < (0 : Int))), du (dig (hbt f.c N i0 x (↑d : Int)).natAbs)] true)), (4, some (Blk.mk [D.bool (decide ((↑P : Int) < (0 : Int))), du (dig (↑P : Int).natAbs)] true)), (5, some (Blk.mk [D.bool (decide ((↑d : Int) < (0 : Int))), du (dig (↑d : Int).natAbs)] true))] 20)) (fun K => by kernel_rfl) ?_
      refine ⟨⟨rfl, rfl⟩, ⟨rfl, rfl⟩, m1, ⟨rfl, rfl⟩, ⟨by omega, by rw [htl]; omega, by simp; omega⟩, by rw [rc_drop0 hp2]; exact ⟨rfl, rfl⟩, m2, ad, by simp [iz], ?_⟩
      refine awp_sx prog_ok hP hnt [] [] [] [0, 3, 4, 5, 6, 7, 8, 9, 38] (by kernel_rfl) (G := fun K => K (St.mk [(0, V.d (rp (rtrim ps))), (3, V.ptr 0 0), (4, V.ptr 1 0), (5, V.ptr 2 0), (6, V.ptr 3 0), (7, V.ptr 4 0), (8, V.ptr 5 0), (9, V.d (D.int IntKind.i64 (↑i0 : Int))), (38, V.d (D.bool (decide ((↑i0 : Int) > (0 : Int)))))] [(0, some (Blk.mk [D.bool (decide (x < (0 : Int))), du (dig x.natAbs), du (dig d)] true)), (1, some (Blk.mk [D.bool false, D.lst 0 []] true)), (2, some (Blk.mk [D.bool false, D.lst 0 []] true)), (3, some (Blk.mk [D.bool (decide (hbt f.c N i0 x (↑d : Int) < (0 : Int))), du (dig (hbt f.c N i0 x (↑d : Int)).natAbs)] true)), (4, some (Blk.mk [D.bool (decide ((↑P : Int) < (0 : Int))), du (dig (↑P : Int).natAbs)] true)), (5, some (Blk.mk [D.bool (decide ((↑d : Int) < (0 : Int))), du (dig (↑d : Int).natAbs)] true))] 22)) (fun K => by kernel_rfl) ?_
      refine awp_cond rfl (fun e3 => ?_) (fun e3 => awp_skip (hK2 _ ?_))
      · simp at e3
        have m3 := mulI (x := (P : Int)) (y := (d : Int)) hPb (by rw [Int.natAbs_natCast]; exact hdb) (by omega) (by omega)
        rw [show (P : Int) * d = ((P * d : Nat) : Int) by rw [Int.natCast_mul], ← hPs] at m3
        refine awp_x prog_ok hP hnt [] [.val (.agg (iz ((d ^ (j + 1) : Nat) : Int)))] [some (iz (P : Nat)), some (iz (d : Nat))] [0, 3, 4, 5, 6, 7, 8, 9] (by kernel_rfl) (G := fun K => ([D.bool (decide ((↑P : Int) < (0 : Int))), du (dig (↑P : Int).natAbs)][0]? = some (D.bool (decide ((↑P : Int) < (0 : Int)))) ∧ [D.bool (decide ((↑P : Int) < (0 : Int))), du (dig (↑P : Int).natAbs)][1]? = some (du (dig (↑P : Int).natAbs))) ∧ ([D.bool (decide ((↑d : Int) < (0 : Int))), du (dig (↑d : Int).natAbs)][0]? = some (D.bool (decide ((↑d : Int) < (0 : Int)))) ∧ [D.bool (decide ((↑d : Int) < (0 : Int))), du (dig (↑d : Int).natAbs)][1]? = some (du (dig (↑d : Int).natAbs))) ∧ Fn Try.prog 123 [V.agg [D.bool (decide ((↑P : Int) < (0 : Int))), du (dig (↑P : Int).natAbs)], V.agg [D.bool (decide ((↑d : Int) < (0 : Int))), du (dig (↑d : Int).natAbs)]] [] (V.agg [D.bool (decide ((↑(d ^ (j + 1)) : Int) < (0 : Int))), du (dig (↑(d ^ (j + 1)) : Int).natAbs)]) [] ∧ 0 + (iz (↑(d ^ (j + 1)) : Int)).length ≤ [D.bool (decide ((↑P : Int) < (0 : Int))), du (dig (↑P : Int).natAbs)].length ∧ K (St.mk [(0, V.d (rp (rtrim ps))), (3, V.ptr 0 0), (4, V.ptr 1 0), (5, V.ptr 2 0), (6, V.ptr 3 0), (7, V.ptr 4 0), (8, V.ptr 5 0), (9, V.d (D.int IntKind.i64 (↑i0 : Int)))] [(0, some (Blk.mk [D.bool (decide (x < (0 : Int))), du (dig x.natAbs), du (dig d)] true)), (1, some (Blk.mk [D.bool false, D.lst 0 []] true)), (2, some (Blk.mk [D.bool false, D.lst 0 []] true)), (3, some (Blk.mk [D.bool (decide (hbt f.c N i0 x (↑d : Int) < (0 : Int))), du (dig (hbt f.c N i0 x (↑d : Int)).natAbs)] true)), (4, some (Blk.mk [D.bool (decide ((↑(d ^ (j + 1)) : Int) < (0 : Int))), du (dig (↑(d ^ (j + 1)) : Int).natAbs)] true)), (5, some (Blk.mk [D.bool (decide ((↑d : Int) < (0 : Int))), du (dig (↑d : Int).natAbs)] true))] 26)) (fun K => by kernel_rfl) ?_
        refine ⟨⟨rfl, rfl⟩, ⟨rfl, rfl⟩, m3, by simp [iz], hK2 _ ?_⟩
        refine awp_x prog_ok hP hnt [(25, .int .i64 ((N : Int) - 1 - (j + 1 : Nat)))] [] [] [0, 3, 4, 5, 6, 7, 8, 9] (by kernel_rfl) (G := fun K => IntKind.i64.wrap ((↑i0 : Int) - (1 : Int)) = (↑N : Int) - (1 : Int) - (↑(j + 1) : Int) ∧ K (St.mk [(0, V.d (rp (rtrim ps))), (3, V.ptr 0 0), (4, V.ptr 1 0), (5, V.ptr 2 0), (6, V.ptr 3 0), (7, V.ptr 4 0), (8, V.ptr 5 0), (9, V.d (D.int IntKind.i64 ((↑N : Int) - (1 : Int) - (↑(j + 1) : Int))))] [(0, some (Blk.mk [D.bool (decide (x < (0 : Int))), du (dig x.natAbs), du (dig d)] true)), (1, some (Blk.mk [D.bool false, D.lst 0 []] true)), (2, some (Blk.mk [D.bool false, D.lst 0 []] true)), (3, some (Blk.mk [D.bool (decide (hbt f.c N i0 x (↑d : Int) < (0 : Int))), du (dig (hbt f.c N i0 x (↑d : Int)).natAbs)] true)), (4, some (Blk.mk [D.bool (decide ((↑(d ^ (j + 1)) : Int) < (0 : Int))), du (dig (↑(d ^ (j + 1)) : Int).natAbs)] true)), (5, some (Blk.mk [D.bool (decide ((↑d : Int) < (0 : Int))), du (dig (↑d : Int).natAbs)] true))] 29)) (fun K => by kernel_rfl) ?_
        refine ⟨by rw [w64] <;> omega, j + 1, [(0, 0), (1, 1), (2, 2), (3, 3), (4, 4), (5, 5)], ⟨by omega, by omega⟩, ?_⟩
        rw [show N - (j + 1) = i0 by omega, show min (j + 1) (N - 1) = j + 1 by omega]
        (constructor <;> simp [hl, envOk, memOk, conv, St.get, St.blk, iz, rt, setCells])
      · simp at e3
        refine awp_x prog_ok hP hnt [(25, .int .i64 ((N : Int) - 1 - (j + 1 : Nat)))] [] [] [0, 3, 4, 5, 6, 7, 8, 9] (by kernel_rfl) (G := fun K => IntKind.i64.wrap ((↑i0 : Int) - (1 : Int)) = (↑N : Int) - (1 : Int) - (↑(j + 1) : Int) ∧ K (St.mk [(0, V.d (rp (rtrim ps))), (3, V.ptr 0 0), (4, V.ptr 1 0), (5, V.ptr 2 0), (6, V.ptr 3 0), (7, V.ptr 4 0), (8, V.ptr 5 0), (9, V.d (D.int IntKind.i64 ((↑N : Int) - (1 : Int) - (↑(j + 1) : Int))))] [(0, some (Blk.mk [D.bool (decide (x < (0 : Int))), du (dig x.natAbs), du (dig d)] true)), (1, some (Blk.mk [D.bool false, D.lst 0 []] true)), (2, some (Blk.mk [D.bool false, D.lst 0 []] true)), (3, some (Blk.mk [D.bool (decide (hbt f.c N i0 x (↑d : Int) < (0 : Int))), du (dig (hbt f.c N i0 x (↑d : Int)).natAbs)] true)), (4, some (Blk.mk [D.bool (decide ((↑P : Int) < (0 : Int))), du (dig (↑P : Int).natAbs)] true)), (5, some (Blk.mk [D.bool (decide ((↑d : Int) < (0 : Int))), du (dig (↑d : Int).natAbs)] true))] 25)) (fun K => by kernel_rfl) ?_
        refine ⟨by rw [w64] <;> omega, j + 1, [(0, 0), (1, 1), (2, 2), (3, 3), (4, 4), (5, 5)], ⟨by omega, by omega⟩, ?_⟩
        rw [show N - (j + 1) = i0 by omega, show min (j + 1) (N - 1) = j by omega, ← hP0]
        (constructor <;> simp [hl, envOk, memOk, conv, St.get, St.blk, iz, rt, setCells])
    · simp at e
      have : j = N := by omega
      subst this
      rw [Nat.sub_self, hbt_zero, show min j (j - 1) = j - 1 by omega]
      (constructor <;> simp [hl, envOk, memOk, conv, St.get, St.blk, iz])
  intro _ _
  refine awp_sx prog_ok hP hnt [] [] [some (iz ((d ^ (N - 1) : Nat) : Int)), some (iz (hb f.c N x d))] [4, 5] (by kernel_rfl) (G := fun K => ((iz (↑(d ^ (N - 1)) : Int))[0]? = some (D.bool (decide ((↑(d ^ (N - 1)) : Int) < (0 : Int)))) ∧ (iz (↑(d ^ (N - 1)) : Int))[1]? = some (du (dig (↑(d ^ (N - 1)) : Int).natAbs))) ∧ ((iz (hb f.c N x (↑d : Int)))[0]? = some (D.bool (decide (hb f.c N x (↑d : Int) < (0 : Int)))) ∧ (iz (hb f.c N x (↑d : Int)))[1]? = some (du (dig (hb f.c N x (↑d : Int)).natAbs))) ∧ 0 + (iz (↑(d ^ (N - 1)) : Int)).length ≤ [D.bool false, D.lst 0 []].length ∧ 0 + (iz (hb f.c N x (↑d : Int))).length ≤ [D.bool false, D.lst 0 []].length ∧ K (St.mk [(4, V.ptr 0 0), (5, V.ptr 1 0)] [(0, some (Blk.mk [D.bool (decide ((↑(d ^ (N - 1)) : Int) < (0 : Int))), du (dig (↑(d ^ (N - 1)) : Int).natAbs)] true)), (1, some (Blk.mk [D.bool (decide (hb f.c N x (↑d : Int) < (0 : Int))), du (dig (hb f.c N x (↑d : Int)).natAbs)] true)), (2, some (Blk.mk [D.bool (decide (hb f.c N x (↑d : Int) < (0 : Int))), du (dig (hb f.c N x (↑d : Int)).natAbs)] true)), (3, some (Blk.mk [D.bool (decide ((↑(d ^ (N - 1)) : Int) < (0 : Int))), du (dig (↑(d ^ (N - 1)) : Int).natAbs)] true))] 8)) (fun K => by kernel_rfl) ?_
  exact ⟨⟨rfl, rfl⟩, ⟨rfl, rfl⟩, by simp [iz], by simp [iz], awp_ret ⟨.inl rfl, retCC rfl rfl rfl rfl rfl rfl rfl⟩⟩
end Go.Abs

set_option linter.unusedVariables false
set_option linter.unusedSimpArgs false
namespace Go.Abs
open Go Go.Proofs Poly
set_option maxRecDepth 100000

theorem dig_b {n K : Nat} (h : n < 2 ^ K) : (dig n).length ≤ K / 32 + 1 := by
  refine dig_len (Nat.lt_of_lt_of_le h ?_)
  rw [show (4294967296 : Nat) = 2 ^ 32 by rfl, ← Nat.pow_mul]
  exact pw (by omega)
theorem RR.of {K : Nat} {q : Rat} (h : Qb K q) : RR (K / 32 + 1) (rq q) q :=
  ⟨decide (q.num < 0), dig q.num.natAbs, dig q.den, rfl, dig_lt _, dig_lt _, dig_b h.1, dig_b h.2, by rw [ival_iz, val_dig, Rat.mkRat_self]⟩
theorem evalRatR {KR n K L : Nat} {i : Nat} {ps : List RI} {r : List D} {q : Rat} (hi : i ≤ 12) (hp : W i ps) (hf : Bd n K (pol ps)) (hr : RR KR r q) (hKR : KR ≤ 2 ^ 38) (hq : Qb L q) (hB : K + n * (L + 1) + 1 ≤ 2 ^ 36) :
    Fn Try.prog 92 [.d (rp ps), .agg r] [] (.agg (rq (evQ (pol ps) q))) [] := by
  have hs := scaledR hi hp hf hr hKR hq hB
  obtain ⟨s, l, m, rfl, _⟩ := hr
  have hh : (hb (pol ps).c (pol ps).sz q.num q.den).natAbs < 2 ^ (K + n * (L + 1) + 1) := Nat.lt_of_lt_of_le (hb_b (K := K) hq.1 (by rw [Int.natAbs_natCast]; exact hq.2) _ hf.ok) (pw (by have := Nat.mul_le_mul_right (L + 1) hf.len; omega))
  have hL2 : n * (L + 1) = n * L + n := by rw [Nat.mul_add, Nat.mul_one]
  have hP : q.den ^ ((pol ps).sz - 1) < 2 ^ (n * L + 1) := by
    have h1 := pow_b (x := (q.den : Int)) (L := L) (by rw [Int.natAbs_natCast]; exact hq.2) ((pol ps).sz - 1)
    rw [← Int.natCast_pow, Int.natAbs_natCast] at h1
    exact Nat.lt_of_lt_of_le h1 (pw (by have := Nat.mul_le_mul_right L (show (pol ps).sz - 1 ≤ n by have := hf.len; omega); omega))
  have hmk := hb_mk (pol ps) q
  obtain ⟨v, hv⟩ : ∃ v, v = hb (pol ps).c (pol ps).sz q.num q.den := ⟨_, rfl⟩
  have hp0 : q.den ^ ((pol ps).sz - 1) ≠ 0 := Nat.ne_of_gt (Nat.pow_pos q.den_pos)
  obtain ⟨p, hpe⟩ : ∃ p, p = q.den ^ ((pol ps).sz - 1) := ⟨_, rfl⟩
  rw [← hv] at hs hh hmk
  rw [← hpe] at hs hP hmk hp0
  have hmake := rmake_fn (decide (v < 0)) (dig v.natAbs) (dig p) (Nat.le_trans (digb hh (by omega)) (by omega)) (Nat.le_trans (digb hP (by omega)) (by omega)) (dig_lt _) (dig_lt _) (by rw [val_dig]; exact hp0)
  rw [ival_iz, val_dig, rnum_mk, rden_mk, hmk, ← iz_nat'] at hmake
  refine fn0 (nt := 22) (res := [.cell 4 78]) Try.func92 rfl (by decide) rfl rfl rfl rfl ?_
  intro Cx hP hnt hl
  refine awp_sx prog_ok hP hnt [] [] [] [0, 3, 4] (by kernel_rfl) (G := fun K => K (St.mk [(0, V.d (rp ps)), (3, V.ptr 0 0), (4, V.ptr 1 0)] [(0, some (Blk.mk [D.bool s, du l, du m] true)), (1, some (Blk.mk [D.bool false, D.lst 0 [], D.lst 0 []] true))] 2)) (fun K => by kernel_rfl) ?_
  refine awp_sx prog_ok hP hnt [] [.val (.tup [.agg (iz (p : Nat)), .agg (iz v)])] [some (rr s l m)] [4, 5, 6] (by kernel_rfl) (G := fun K => ([D.bool s, du l, du m][0]? = some (D.bool s) ∧ [D.bool s, du l, du m][1]? = some (du l) ∧ [D.bool s, du l, du m][2]? = some (du m)) ∧ Fn Try.prog 178 [V.d (rp ps), V.agg [D.bool s, du l, du m]] [] (V.tup [V.agg [D.bool (decide ((↑p : Int) < (0 : Int))), du (dig (↑p : Int).natAbs)], V.agg [D.bool (decide (v < (0 : Int))), du (dig v.natAbs)]]) [] ∧ 0 + (iz (↑p : Int)).length ≤ (TI.mk (Kind.struct [(0, 1), (1, 1)]) 2 32 [D.bool false, D.lst 0 []]).zero.length ∧ 0 + (iz v).length ≤ (TI.mk (Kind.struct [(0, 1), (1, 1)]) 2 32 [D.bool false, D.lst 0 []]).zero.length ∧ K (St.mk [(4, V.ptr 1 0), (5, V.ptr 8 0), (6, V.ptr 9 0)] [(0, some (Blk.mk [D.bool s, du l, du m] true)), (1, some (Blk.mk [D.bool false, D.lst 0 [], D.lst 0 []] true)), (8, some (Blk.mk [D.bool (decide ((↑p : Int) < (0 : Int))), du (dig (↑p : Int).natAbs)] true)), (9, some (Blk.mk [D.bool (decide (v < (0 : Int))), du (dig v.natAbs)] true))] 12)) (fun K => by kernel_rfl) ?_
  refine ⟨⟨rfl, rfl, rfl⟩, hs, by simp [iz], by simp [iz], ?_⟩
  refine awp_sx prog_ok hP hnt [] [.val (.tup [.agg (rq (evQ (pol ps) q)), .d (.int .i64 0)])] [some (iz v), some (iz (p : Nat))] [4, 7] (by kernel_rfl) (G := fun K => ([D.bool (decide (v < (0 : Int))), du (dig v.natAbs)][0]? = some (D.bool (decide (v < (0 : Int)))) ∧ [D.bool (decide (v < (0 : Int))), du (dig v.natAbs)][1]? = some (du (dig v.natAbs))) ∧ ([D.bool (decide ((↑p : Int) < (0 : Int))), du (dig (↑p : Int).natAbs)][0]? = some (D.bool (decide ((↑p : Int) < (0 : Int)))) ∧ [D.bool (decide ((↑p : Int) < (0 : Int))), du (dig (↑p : Int).natAbs)][1]? = some (du (dig (↑p : Int).natAbs))) ∧ Fn Try.prog 110 [V.agg [D.bool (decide (v < (0 : Int))), du (dig v.natAbs)], V.agg [D.bool (decide ((↑p : Int) < (0 : Int))), du (dig (↑p : Int).natAbs)]] [] (V.tup [V.agg [D.bool (decide ((evQ (pol ps) q).num < (0 : Int))), du (dig (evQ (pol ps) q).num.natAbs), du (dig (evQ (pol ps) q).den)], V.d (D.int IntKind.i64 (0 : Int))]) [] ∧ 0 + (rq (evQ (pol ps) q)).length ≤ (TI.mk (Kind.struct [(0, 2), (2, 1)]) 3 56 [D.bool false, D.lst 0 [], D.lst 0 []]).zero.length ∧ K (St.mk [(4, V.ptr 1 0), (7, V.ptr 18 0)] [(0, some (Blk.mk [D.bool s, du l, du m] true)), (1, some (Blk.mk [D.bool false, D.lst 0 [], D.lst 0 []] true)), (8, some (Blk.mk [D.bool (decide ((↑p : Int) < (0 : Int))), du (dig (↑p : Int).natAbs)] true)), (9, some (Blk.mk [D.bool (decide (v < (0 : Int))), du (dig v.natAbs)] true)), (18, some (Blk.mk [D.bool (decide ((evQ (pol ps) q).num < (0 : Int))), du (dig (evQ (pol ps) q).num.natAbs), du (dig (evQ (pol ps) q).den)] true))] 21)) (fun K => by kernel_rfl) ?_
  refine ⟨⟨rfl, rfl⟩, ⟨rfl, rfl⟩, hmake, by simp [rq, rt], ?_⟩
  refine awp_sx prog_ok hP hnt [] [] [some (rq (evQ (pol ps) q))] [4] (by kernel_rfl) (G := fun K => ([D.bool (decide ((evQ (pol ps) q).num < (0 : Int))), du (dig (evQ (pol ps) q).num.natAbs), du (dig (evQ (pol ps) q).den)][0]? = some (D.bool (decide ((evQ (pol ps) q).num < (0 : Int)))) ∧ [D.bool (decide ((evQ (pol ps) q).num < (0 : Int))), du (dig (evQ (pol ps) q).num.natAbs), du (dig (evQ (pol ps) q).den)][1]? = some (du (dig (evQ (pol ps) q).num.natAbs)) ∧ [D.bool (decide ((evQ (pol ps) q).num < (0 : Int))), du (dig (evQ (pol ps) q).num.natAbs), du (dig (evQ (pol ps) q).den)][2]? = some (du (dig (evQ (pol ps) q).den))) ∧ 0 + (rq (evQ (pol ps) q)).length ≤ [D.bool false, D.lst 0 [], D.lst 0 []].length ∧ K (St.mk [(4, V.ptr 1 0)] [(0, some (Blk.mk [D.bool s, du l, du m] true)), (1, some (Blk.mk [D.bool (decide ((evQ (pol ps) q).num < (0 : Int))), du (dig (evQ (pol ps) q).num.natAbs), du (dig (evQ (pol ps) q).den)] true)), (8, some (Blk.mk [D.bool (decide ((↑p : Int) < (0 : Int))), du (dig (↑p : Int).natAbs)] true)), (9, some (Blk.mk [D.bool (decide (v < (0 : Int))), du (dig v.natAbs)] true)), (18, some (Blk.mk [D.bool (decide ((evQ (pol ps) q).num < (0 : Int))), du (dig (evQ (pol ps) q).num.natAbs), du (dig (evQ (pol ps) q).den)] true))] 23)) (fun K => by kernel_rfl) ?_
  exact ⟨⟨rfl, rfl, rfl⟩, by simp [rq, rt], awp_ret ⟨.inl rfl, retC (l := true) rfl rfl rfl rfl⟩⟩

theorem signAtR {KR n K L : Nat} {i : Nat} {ps : List RI} {r : List D} {q : Rat} (hi : i ≤ 12) (hp : W i ps) (hf : Bd n K (pol ps)) (hr : RR KR r q) (hKR : KR ≤ 2 ^ 38) (hq : Qb L q) (hB : K + n * (L + 1) + 1 ≤ 2 ^ 36) :
    Fn Try.prog 95 [.d (rp ps), .agg r] [] (.d (.int .i64 (evQ (pol ps) q).num.sign)) [] := by
  have hs := scaledR hi hp hf hr hKR hq hB
  obtain ⟨s, l, m, rfl, _⟩ := hr
  have hh : (hb (pol ps).c (pol ps).sz q.num q.den).natAbs < 2 ^ (K + n * (L + 1) + 1) := Nat.lt_of_lt_of_le (hb_b (K := K) hq.1 (by rw [Int.natAbs_natCast]; exact hq.2) _ hf.ok) (pw (by have := Nat.mul_le_mul_right (L + 1) hf.len; omega))
  have hsg := hb_sign (pol ps) q
  obtain ⟨v, hv⟩ : ∃ v, v = hb (pol ps).c (pol ps).sz q.num q.den := ⟨_, rfl⟩
  obtain ⟨p, hpe⟩ : ∃ p, p = q.den ^ ((pol ps).sz - 1) := ⟨_, rfl⟩
  rw [← hv] at hs hh hsg
  rw [← hpe] at hs
  have h1 := sign_fn (decide (v < 0)) (dig v.natAbs) (Nat.le_trans (digb hh (by omega)) (by omega)) (dig_lt _)
  rw [ival_iz, ← iz_ic, hsg] at h1
  refine fn0 (nt := 15) (res := [.tmp 4]) Try.func95 rfl (by decide) rfl rfl rfl rfl ?_
  intro Cx hP hnt hl
  refine awp_sx prog_ok hP hnt [] [] [] [0, 3] (by kernel_rfl) (G := fun K => K (St.mk [(0, V.d (rp ps)), (3, V.ptr 0 0)] [(0, some (Blk.mk [D.bool s, du l, du m] true))] 2)) (fun K => by kernel_rfl) ?_
  refine awp_sx prog_ok hP hnt [] [.val (.tup [.agg (iz (p : Nat)), .agg (iz v)])] [some (rr s l m)] [6] (by kernel_rfl) (G := fun K => ([D.bool s, du l, du m][0]? = some (D.bool s) ∧ [D.bool s, du l, du m][1]? = some (du l) ∧ [D.bool s, du l, du m][2]? = some (du m)) ∧ Fn Try.prog 178 [V.d (rp ps), V.agg [D.bool s, du l, du m]] [] (V.tup [V.agg [D.bool (decide ((↑p : Int) < (0 : Int))), du (dig (↑p : Int).natAbs)], V.agg [D.bool (decide (v < (0 : Int))), du (dig v.natAbs)]]) [] ∧ 0 + (iz (↑p : Int)).length ≤ (TI.mk (Kind.struct [(0, 1), (1, 1)]) 2 32 [D.bool false, D.lst 0 []]).zero.length ∧ 0 + (iz v).length ≤ (TI.mk (Kind.struct [(0, 1), (1, 1)]) 2 32 [D.bool false, D.lst 0 []]).zero.length ∧ K (St.mk [(6, V.ptr 9 0)] [(0, some (Blk.mk [D.bool s, du l, du m] true)), (8, some (Blk.mk [D.bool (decide ((↑p : Int) < (0 : Int))), du (dig (↑p : Int).natAbs)] true)), (9, some (Blk.mk [D.bool (decide (v < (0 : Int))), du (dig v.natAbs)] true))] 12)) (fun K => by kernel_rfl) ?_
  refine ⟨⟨rfl, rfl, rfl⟩, hs, by simp [iz], by simp [iz], ?_⟩
  refine awp_sx prog_ok hP hnt [] [.val (.d (.int .i64 (evQ (pol ps) q).num.sign))] [some (iz v)] [4] (by kernel_rfl) (G := fun K => ([D.bool (decide (v < (0 : Int))), du (dig v.natAbs)][0]? = some (D.bool (decide (v < (0 : Int)))) ∧ [D.bool (decide (v < (0 : Int))), du (dig v.natAbs)][1]? = some (du (dig v.natAbs))) ∧ Fn Try.prog 102 [V.agg [D.bool (decide (v < (0 : Int))), du (dig v.natAbs)]] [] (V.d (D.int IntKind.i64 (evQ (pol ps) q).num.sign)) [] ∧ K (St.mk [(4, V.d (D.int IntKind.i64 (evQ (pol ps) q).num.sign))] [(0, some (Blk.mk [D.bool s, du l, du m] true)), (8, some (Blk.mk [D.bool (decide ((↑p : Int) < (0 : Int))), du (dig (↑p : Int).natAbs)] true)), (9, some (Blk.mk [D.bool (decide (v < (0 : Int))), du (dig v.natAbs)] true))] 15)) (fun K => by kernel_rfl) ?_
  exact ⟨⟨rfl, rfl⟩, h1, awp_ret ⟨.inl rfl, retD rfl⟩⟩

theorem few01_fn (n : Nat) (ls : List (List Nat)) (hn : n ≤ 2 ^ 40) (hl0 : ls.length ≤ 2 ^ 30) : Fn Try.prog 89 [.d (.int .i64 n), .d (.lst ls.length (ls.map du))] [] (.d (.bool (ls.all fun l => decide (l.length ≤ n)))) [] := by
  refine fn0 (nt := 19) (res := [.tmp 4]) Try.func89 rfl (by decide) rfl rfl rfl rfl ?_
  intro Cx hP hnt hl
  refine awp_sx prog_ok hP hnt [] [] [] [0, 1] (by kernel_rfl) (G := fun K => K (St.mk [(0, V.d (D.int IntKind.i64 (↑n : Int))), (1, V.d (D.lst ls.length (List.map du ls)))] [] 1)) (fun K => by kernel_rfl) ?_
  by_cases hall : ∀ l ∈ ls, l.length ≤ n
  · have e : (ls.all fun l => decide (l.length ≤ n)) = true := by simpa using hall
    rw [e]
    refine awp_cut (ι := Unit) (fun _ => ⟨[], [], 0⟩) (fun _ => True) ?_ ?_
    · refine awp_sx prog_ok hP hnt [] [] [] [0, 1, 5] (by kernel_rfl) (G := fun K => K (St.mk [(0, V.d (D.int IntKind.i64 (↑n : Int))), (1, V.d (D.lst ls.length (List.map du ls))), (5, V.d (D.int IntKind.i64 (0 : Int)))] [] 2)) (fun K => by kernel_rfl) ?_
      refine awp_block ?_
      refine awp_loop (ι := Nat) (fun k => ⟨[(0, .d (.int .i64 n)), (1, .d (.lst ls.length (ls.map du))), (5, .d (.int .i64 k))], [], 0⟩) (fun k => k ≤ ls.length) (fun k => ls.length - k) 0 [] (by omega) ?_ ?_
      · (constructor <;> simp [hl, envOk, memOk, conv, St.get, St.blk])
      intro k hk
      refine awp_seq_k fun K1 hK1 => ?_
      refine awp_sx prog_ok hP hnt [] [] [] [0, 1, 5, 9] (by kernel_rfl) (G := fun K => K (St.mk [(0, V.d (D.int IntKind.i64 (↑n : Int))), (1, V.d (D.lst ls.length (List.map du ls))), (5, V.d (D.int IntKind.i64 (↑k : Int))), (9, V.d (D.bool (decide ((↑k : Int) < (↑ls.length : Int)))))] [] 4)) (fun K => by kernel_rfl) ?_
      refine awp_cond rfl (fun e => awp_skip (hK1 _ ?_)) (fun e => awp_exit ⟨(), [], trivial, ?_⟩)
      · simp at e
        obtain ⟨l, hl1⟩ := get_ex (l := ls) (i := k) (by omega)
        have h1 := hall l (List.mem_of_getElem? hl1)
        refine awp_seq_k fun K2 hK2 => ?_
        refine awp_block ?_
        refine awp_sx prog_ok hP hnt [(18, .bool false)] [] [some [du l]] [0, 1, 5, 18] (by kernel_rfl) (G := fun K => ((0 : Int) ≤ (↑k : Int) ∧ (↑k : Int) < (↑ls.length : Int) ∧ ((↑k : Int).toNat + 1) * 1 ≤ (List.map du ls).length) ∧ (List.drop ((↑k : Int).toNat * 1) (List.map du ls))[0]? = some (du l) ∧ decide ((↑l.length : Int) > (↑n : Int)) = false ∧ K (St.mk [(0, V.d (D.int IntKind.i64 (↑n : Int))), (1, V.d (D.lst ls.length (List.map du ls))), (5, V.d (D.int IntKind.i64 (↑k : Int))), (18, V.d (D.bool false))] [] 11)) (fun K => by kernel_rfl) ?_
        refine ⟨⟨by omega, by omega, by simp; omega⟩, by simp [hl1], by simp; omega, awp_cond (b := false) rfl nofun fun _ => awp_skip (hK2 _ ?_)⟩
        refine awp_x prog_ok hP hnt [(11, .int .i64 (k + 1 : Nat))] [] [] [0, 1, 5] (by kernel_rfl) (G := fun K => IntKind.i64.wrap ((↑k : Int) + (1 : Int)) = (↑(k + 1) : Int) ∧ K (St.mk [(0, V.d (D.int IntKind.i64 (↑n : Int))), (1, V.d (D.lst ls.length (List.map du ls))), (5, V.d (D.int IntKind.i64 (↑(k + 1) : Int)))] [] 14)) (fun K => by kernel_rfl) ?_
        refine ⟨by rw [w64] <;> omega, k + 1, [], ⟨by omega, by omega⟩, ?_⟩
        (constructor <;> simp [hl, envOk, memOk, conv, St.get, St.blk])
      · (constructor <;> simp [hl, envOk, memOk, conv, St.get, St.blk])
    intro _ _
    refine awp_sx prog_ok hP hnt [] [] [] [4] (by kernel_rfl) (G := fun K => K (St.mk [(4, V.d (D.bool true))] [] 1)) (fun K => by kernel_rfl) ?_
    exact awp_ret ⟨.inl rfl, retD rfl⟩
  · have e : (ls.all fun l => decide (l.length ≤ n)) = false := by
      cases h : (ls.all fun l => decide (l.length ≤ n)) with
      | false => rfl
      | true => exact absurd (by simpa using h) hall
    rw [e]
    obtain ⟨j, hj, hjl⟩ : ∃ j, (∃ l : List Nat, ls[j]? = some l ∧ ¬ l.length ≤ n) ∧ ∀ k, k < j → ∀ l : List Nat, ls[k]? = some l → l.length ≤ n := by
      have h1 : ¬ ∀ k, ∀ l : List Nat, ls[k]? = some l → l.length ≤ n := fun h => hall fun l hm => by
        obtain ⟨k, hk⟩ := List.mem_iff_getElem?.1 hm
        exact h k l hk
      obtain ⟨j, h2, h3⟩ := first_not (Q := fun k => ∀ l : List Nat, ls[k]? = some l → l.length ≤ n) h1
      obtain ⟨l, h4⟩ := Classical.not_forall.1 h2
      exact ⟨j, ⟨l, Classical.not_imp.1 h4⟩, h3⟩
    refine awp_cut (ι := Unit) (fun _ => ⟨[], [], 0⟩) (fun _ => False) ?_ (fun _ h => h.elim)
    refine awp_sx prog_ok hP hnt [] [] [] [0, 1, 5] (by kernel_rfl) (G := fun K => K (St.mk [(0, V.d (D.int IntKind.i64 (↑n : Int))), (1, V.d (D.lst ls.length (List.map du ls))), (5, V.d (D.int IntKind.i64 (0 : Int)))] [] 2)) (fun K => by kernel_rfl) ?_
    refine awp_block ?_
    refine awp_loop (ι := Nat) (fun k => ⟨[(0, .d (.int .i64 n)), (1, .d (.lst ls.length (ls.map du))), (5, .d (.int .i64 k))], [], 0⟩) (fun k => k ≤ j) (fun k => j - k) 0 [] (by omega) ?_ ?_
    · (constructor <;> simp [hl, envOk, memOk, conv, St.get, St.blk])
    intro k hk
    refine awp_seq_k fun K1 hK1 => ?_
    obtain ⟨lj, hj1, hj2⟩ := hj
    have hjlt : j < ls.length := (List.getElem?_eq_some_iff.1 hj1).1
    refine awp_sx prog_ok hP hnt [(9, .bool true)] [] [] [0, 1, 5, 9] (by kernel_rfl) (G := fun K => decide ((↑k : Int) < (↑ls.length : Int)) = true ∧ K (St.mk [(0, V.d (D.int IntKind.i64 (↑n : Int))), (1, V.d (D.lst ls.length (List.map du ls))), (5, V.d (D.int IntKind.i64 (↑k : Int))), (9, V.d (D.bool true))] [] 4)) (fun K => by kernel_rfl) ?_
    refine ⟨by simp; omega, awp_cond (b := true) rfl (fun _ => awp_skip (hK1 _ ?_)) nofun⟩
    obtain ⟨l, hl1⟩ := get_ex (l := ls) (i := k) (by omega)
    refine awp_seq_k fun K2 hK2 => ?_
    refine awp_block ?_
    by_cases hkj : k = j
    · subst hkj
      rw [hl1] at hj1
      have : l = lj := by simpa using hj1
      subst this
      refine awp_sx prog_ok hP hnt [(18, .bool true)] [] [some [du l]] [0, 1, 5, 18] (by kernel_rfl) (G := fun K => ((0 : Int) ≤ (↑k : Int) ∧ (↑k : Int) < (↑ls.length : Int) ∧ ((↑k : Int).toNat + 1) * 1 ≤ (List.map du ls).length) ∧ (List.drop ((↑k : Int).toNat * 1) (List.map du ls))[0]? = some (du l) ∧ decide ((↑l.length : Int) > (↑n : Int)) = true ∧ K (St.mk [(0, V.d (D.int IntKind.i64 (↑n : Int))), (1, V.d (D.lst ls.length (List.map du ls))), (5, V.d (D.int IntKind.i64 (↑k : Int))), (18, V.d (D.bool true))] [] 11)) (fun K => by kernel_rfl) ?_
      refine ⟨⟨by omega, by omega, by simp; omega⟩, by simp [hl1], by simp; omega, awp_cond (b := true) rfl (fun _ => ?_) nofun⟩
      refine awp_sx prog_ok hP hnt [] [] [] [4] (by kernel_rfl) (G := fun K => K (St.mk [(4, V.d (D.bool false))] [] 12)) (fun K => by kernel_rfl) ?_
      exact awp_ret ⟨.inl rfl, retD rfl⟩
    · have h1 := hjl k (by omega) l hl1
      refine awp_sx prog_ok hP hnt [(18, .bool false)] [] [some [du l]] [0, 1, 5, 18] (by kernel_rfl) (G := fun K => ((0 : Int) ≤ (↑k : Int) ∧ (↑k : Int) < (↑ls.length : Int) ∧ ((↑k : Int).toNat + 1) * 1 ≤ (List.map du ls).length) ∧ (List.drop ((↑k : Int).toNat * 1) (List.map du ls))[0]? = some (du l) ∧ decide ((↑l.length : Int) > (↑n : Int)) = false ∧ K (St.mk [(0, V.d (D.int IntKind.i64 (↑n : Int))), (1, V.d (D.lst ls.length (List.map du ls))), (5, V.d (D.int IntKind.i64 (↑k : Int))), (18, V.d (D.bool false))] [] 11)) (fun K => by kernel_rfl) ?_
      refine ⟨⟨by omega, by omega, by simp; omega⟩, by simp [hl1], by simp; omega, awp_cond (b := false) rfl nofun fun _ => awp_skip (hK2 _ ?_)⟩
      refine awp_x prog_ok hP hnt [(11, .int .i64 (k + 1 : Nat))] [] [] [0, 1, 5] (by kernel_rfl) (G := fun K => IntKind.i64.wrap ((↑k : Int) + (1 : Int)) = (↑(k + 1) : Int) ∧ K (St.mk [(0, V.d (D.int IntKind.i64 (↑n : Int))), (1, V.d (D.lst ls.length (List.map du ls))), (5, V.d (D.int IntKind.i64 (↑(k + 1) : Int)))] [] 14)) (fun K => by kernel_rfl) ?_
      refine ⟨by rw [w64] <;> omega, k + 1, [], ⟨by omega, by omega⟩, ?_⟩
      (constructor <;> simp [hl, envOk, memOk, conv, St.get, St.blk])
end Go.Abs

set_option linter.unusedVariables false
set_option linter.unusedSimpArgs false
namespace Go.Abs
open Go Go.Proofs Poly
set_option maxRecDepth 100000

/-- a fraction among a law's arguments -/
abbrev rawR (c : RI × List Nat) : List D := ic c.1.1 c.1.2 ++ [du c.2]
theorem rawR_ok {c : RI × List Nat} {K : Nat} (h1 : Dg c.1.2) (h2 : Dg c.2) (l1 : c.1.2.length ≤ K) (l2 : c.2.length ≤ K) : RR K (rawR c) (mkRat (ival c.1.1 c.1.2) (val c.2)) := ⟨_, _, _, rfl, h1, h2, l1, l2, rfl⟩
theorem rawR_b {c : RI × List Nat} {K : Nat} (h1 : Dg c.1.2) (h2 : Dg c.2) (l1 : c.1.2.length ≤ K) (l2 : c.2.length ≤ K) (hK : 1 ≤ K) : Qb (32 * K) (mkRat (ival c.1.1 c.1.2) (val c.2)) :=
  mkRat_b (by unfold ival; rw [sgn_abs]; exact val_lt2 h1 l1) (val_lt2 h2 l2) (by omega)
theorem few01_two (c : RI × List Nat) : Fn Try.prog 89 [.d (.int .i64 2), .d (.lst 2 [du c.1.2, du c.2])] [] (.d (.bool (decide (c.1.2.length ≤ 2) && decide (c.2.length ≤ 2)))) [] := by
  have := few01_fn 2 [c.1.2, c.2] (by omega) (by simp)
  simpa using this
end Go.Abs

set_option linter.unusedVariables false
set_option linter.unusedSimpArgs false
namespace Go.Abs
open Go Go.Proofs Poly
set_option maxRecDepth 100000

theorem RR.mono {K L : Nat} {r : List D} {q : Rat} (h : RR K r q) (hK : K ≤ L) : RR L r q := by
  obtain ⟨s, l, m, e, dl, dm, hl, hm, v⟩ := h
  exact ⟨s, l, m, e, dl, dm, by omega, by omega, v⟩
end Go.Abs

set_option linter.unusedVariables false
set_option linter.unusedSimpArgs false
namespace Go.Abs

/-! ### One step of the division of bits -/
section
variable {b : Nat}
/-- doubling a row of digits -/
theorem dbl_step {o O : List Nat} {k c w T : Nat} {a : Nat} (ho : k < o.length) (hw : O[k]? = some w) (hT : T = 2 * w + c)
    (h : vb b (o.take k) + b ^ k * c = 2 * vb b (O.take k) + a) :
    vb b ((o.set k (T % b)).take (k + 1)) + b ^ (k + 1) * (T / b) = 2 * vb b (O.take (k + 1)) + a := by
  rw [vb_set ho, vb_take_succ hw, Nat.pow_succ]
  have e : b * (T / b) + T % b = 2 * w + c := by rw [← hT]; exact Nat.div_add_mod T b
  have e0 : (o.take k).length = k := by rw [List.length_take]; omega
  generalize T / b = d at *
  generalize T % b = s at *
  generalize b ^ k = B at *
  have : B * (b * d + s) = B * (2 * w + c) := by rw [e]
  grind
/-- which is less is seen at the first difference from above -/
theorem vb_cmp_at (hb : 0 < b) {l m : List Nat} (hl : Db b l) (hm : Db b m) {k : Nat} (he : ∀ j, k < j → l.getD j 0 = m.getD j 0) (hk : k = 0 ∨ l.getD k 0 ≠ m.getD k 0) :
    vb b l < vb b m ↔ l.getD k 0 < m.getD k 0 := by
  have h1 := vb_splitb b l k
  have h2 := vb_splitb b m k
  have e : vb b (l.drop (k + 1)) = vb b (m.drop (k + 1)) := by
    have key : ∀ (n : Nat) (l m : List Nat), l.length + m.length ≤ n → (∀ j, l.getD j 0 = m.getD j 0) → vb b l = vb b m := by
      intro n
      induction n with
      | zero =>
        intro l m h _
        have h1 : l = [] := List.eq_nil_of_length_eq_zero (by omega)
        have h2 : m = [] := List.eq_nil_of_length_eq_zero (by omega)
        rw [h1, h2]
      | succ n ih =>
        intro l m h hj
        cases l with
        | nil =>
          cases m with
          | nil => rfl
          | cons y m =>
            have h0 := hj 0
            have := ih [] m (by simp at h ⊢; omega) (fun j => by have := hj (j + 1); simpa using this)
            simp at h0
            show vb b [] = y + b * vb b m
            rw [← this, ← h0]; simp [vb]
        | cons x l =>
          cases m with
          | nil =>
            have h0 := hj 0
            have := ih l [] (by simp at h ⊢; omega) (fun j => by have := hj (j + 1); simpa using this)
            simp at h0
            show x + b * vb b l = vb b []
            rw [this, h0]; simp [vb]
          | cons y m =>
            have h0 := hj 0
            have := ih l m (by simp at h ⊢; omega) (fun j => by have := hj (j + 1); simpa using this)
            simp at h0
            rw [vb, vb, this, h0]
    refine key _ _ _ (Nat.le_refl _) fun j => ?_
    have := he (k + 1 + j) (by omega)
    rw [List.getD_eq_getElem?_getD, List.getD_eq_getElem?_getD] at this
    rw [List.getD_eq_getElem?_getD, List.getD_eq_getElem?_getD, List.getElem?_drop, List.getElem?_drop]
    exact this
  rw [e] at h1
  have l1 : vb b (l.take k) < b ^ k := Nat.lt_of_lt_of_le (vb_lt hb (db_take hl k)) (Nat.pow_le_pow_right hb (by rw [List.length_take]; omega))
  have l2 : vb b (m.take k) < b ^ k := Nat.lt_of_lt_of_le (vb_lt hb (db_take hm k)) (Nat.pow_le_pow_right hb (by rw [List.length_take]; omega))
  generalize vb b (m.drop (k + 1)) = U at *
  generalize l.getD k 0 = x at *
  generalize m.getD k 0 = y at *
  generalize vb b (l.take k) = p at *
  generalize vb b (m.take k) = q at *
  rw [h1, h2]
  have hz : k = 0 → p = 0 ∧ q = 0 := fun h => by subst h; simp at l1 l2; omega
  generalize b ^ k = B at *
  constructor
  · intro h
    apply Classical.byContradiction
    intro h3
    rcases Nat.lt_or_ge y x with h4 | h4
    · have h5 : B * (y + b * U + 1) ≤ B * (x + b * U) := Nat.mul_le_mul_left _ (by omega)
      rw [Nat.mul_add, Nat.mul_one] at h5
      omega
    · have hxy : x = y := by omega
      subst hxy
      rcases hk with h5 | h5
      · obtain ⟨h6, h7⟩ := hz h5; omega
      · exact h5 rfl
  · intro h
    have h5 : B * (x + b * U + 1) ≤ B * (y + b * U) := Nat.mul_le_mul_left _ (by omega)
    rw [Nat.mul_add, Nat.mul_one] at h5
    omega
end
/-- one more bit of the dividend -/
theorem div_bit {A B i : Nat} (hB : 0 < B) : 2 * (A / 2 ^ (i + 1) % B) + A / 2 ^ i % 2 = (if B ≤ 2 * (A / 2 ^ (i + 1) % B) + A / 2 ^ i % 2 then B else 0) + A / 2 ^ i % B ∧
    A / 2 ^ i / B % 2 = if B ≤ 2 * (A / 2 ^ (i + 1) % B) + A / 2 ^ i % 2 then 1 else 0 := by
  have e : A / 2 ^ (i + 1) = A / 2 ^ i / 2 := by rw [Nat.pow_succ, Nat.div_div_eq_div_mul]
  rw [e]
  generalize A / 2 ^ i = N at *
  have h1 := Nat.div_add_mod (N / 2) B
  have h2 := Nat.mod_lt (N / 2) hB
  have h3 : N = 2 * (N / 2) + N % 2 := by omega
  generalize N / 2 % B = r at *
  generalize N / 2 / B = q at *
  generalize hx : N % 2 = x at *
  have hx2 : x < 2 := by omega
  have hN : N = B * (2 * q) + (2 * r + x) := by rw [h3, ← h1]; grind
  split
  · rename_i h
    have hN2 : N = (2 * r + x - B) + B * (2 * q + 1) := by rw [hN, Nat.mul_add B (2 * q) 1, Nat.mul_one]; omega
    have hm : N % B = 2 * r + x - B := by rw [hN2, Nat.add_mul_mod_self_left, Nat.mod_eq_of_lt (by omega)]
    have hd : N / B = 2 * q + 1 := by rw [hN2, Nat.add_mul_div_left _ _ hB, Nat.div_eq_of_lt (by omega)]; omega
    rw [hm, hd]; omega
  · rename_i h
    have hN2 : N = (2 * r + x) + B * (2 * q) := by rw [hN]; omega
    have hm : N % B = 2 * r + x := by rw [hN2, Nat.add_mul_mod_self_left, Nat.mod_eq_of_lt (by omega)]
    have hd : N / B = 2 * q := by rw [hN2, Nat.add_mul_div_left _ _ hB, Nat.div_eq_of_lt (by omega)]; omega
    rw [hm, hd]; omega
end Go.Abs
