import Derived.WalkKit
import Derived.Orders
import Derived.Below
import Derived.Laws.AppendOwn
import Derived.Calls
import Derived.OpenShut
import Derived.ChangeArms
import Derived.ChangeShapes
import Derived.WideShapes
import Derived.KernelRfl
import Derived.JoinedOf
import Derived.ProofKit
import Derived.ShutString
import Derived.ChangeOld
import Derived.SizedLaws
import Derived.Test.YtmlaakadkjmmfaaProg
import Derived.Test.YtmlaakadkjmmfaaChangesx0
import Derived.Test.YtmlaakadkjmmfaaChangesx1
import Derived.Test.YtmlaakadkjmmfaaChangesx2
import Derived.Test.YtmlaakadkjmmfaaChangesx3
import Derived.Test.YtmlaakadkjmmfaaChangesx4
/- Texts that the proof of UnipolyChanges leans on: what is told of the functions it reaches. -/
set_option linter.unusedVariables false
set_option linter.unusedSimpArgs false
namespace Go.Abs
open Go Go.Proofs Poly
set_option maxRecDepth 100000

theorem Bd.w {n K i : Nat} {f : Poly} (h : Bd n K f) (hn : n ≤ 100 * 2 ^ i) (hK : K ≤ 1280 * 4 ^ i) : W i (cp f) := (h.lv hn hK).w

/-- Horner's scheme: n and K bound f, m and L bound g -/
theorem composeP {i m K L s : Nat} {ps qs : List RI} (hi : i ≤ 12) (hp : W i ps) (hq : W i qs) (hf : ∀ k, (co ps k).natAbs < 2 ^ K) (hg : Bd m L (pol qs)) (hs : ps.length * m + 1 < 2 ^ s) (h1 : ps.length * m + m + 1 ≤ 100 * 2 ^ i) (h2 : K + ps.length * (L + s + 1) + 1 ≤ 1280 * 4 ^ i) :
    Fn Try.prog 58 [.d (rp ps), .d (rp qs)] [] (.d (rp (cp (comp (pol ps) (pol qs))))) [] ∧ Bd (ps.length * m + 1) (K + ps.length * (L + s + 1) + 1) (comp (pol ps) (pol qs)) := by
  obtain ⟨N, hN⟩ : ∃ N, N = ps.length := ⟨_, rfl⟩
  rw [← hN] at hs h1 h2 ⊢
  have hl2 := lim2 hi
  have hl4 := lim4 hi
  have hpl := hp.len
  obtain ⟨fl, hfl⟩ : ∃ fl, fl = tb (co ps) N := ⟨_, rfl⟩
  have hfll : fl.length = N := by rw [hfl]; simp
  have hfp : polL fl = pol ps := by
    rw [hfl]; exact polL_tb (f := pol ps) fun k hk => co_beyond (by omega)
  obtain ⟨g, hgd⟩ : ∃ g, g = pol qs := ⟨_, rfl⟩
  rw [← hgd] at hg ⊢
  -- behind j rounds
  obtain ⟨S, hS⟩ : ∃ S : Nat → Poly, S = fun n => compL g (fl.drop n) := ⟨_, rfl⟩
  have hSN : S N = 0 := by rw [hS]; simp only; rw [List.drop_eq_nil_of_le (by omega)]; rfl
  have hSs : ∀ n, n < N → S n = S (n + 1) * g + C (co ps n) := fun n hn => by
    rw [hS]; simp only
    rw [drop_cons (l := fl) (i := n) (by omega)]
    have : fl.getD n 0 = co ps n := by rw [hfl, List.getD_eq_getElem?_getD, tb_get hn]; rfl
    rw [this]
    exact ext_ev fun x _ => by simp [compL]; grind
  have hS0 : S 0 = comp (pol ps) g := by
    rw [hS]; simp only [List.drop_zero]
    exact ext_ev fun x _ => by simp [hfp]
  have hSb : ∀ j, j ≤ N → Bd (j * m + 1) (K + j * (L + s + 1) + 1) (S (N - j)) := fun j => by
    induction j with
    | zero => intro _; rw [Nat.sub_zero, hSN]; exact Bd.zero
    | succ j ih =>
      intro hj
      have a1 := ih (by omega)
      have hjm : j * m ≤ N * m := Nat.mul_le_mul_right _ (by omega)
      have a2 := Bd.mul a1 hg (s := s) (by omega)
      rw [hSs (N - (j + 1)) (by omega), show N - (j + 1) + 1 = N - j by omega]
      have a3 : Bd 1 K (C (co ps (N - (j + 1)))) := ⟨sz_le fun k hk => by rw [C_c, if_neg (by omega)], fun k => by
        rw [C_c]; split
        · exact hf _
        · exact Nat.pow_pos (by omega)⟩
      refine (Bd.add a2 a3).mono ?_ ?_
      · rw [Nat.succ_mul]; omega
      · rw [Nat.succ_mul]; omega
  have hb := hSb N (Nat.le_refl _)
  rw [Nat.sub_self, hS0] at hb
  refine And.symm ⟨hb, ?_⟩
  rw [← hS0]
  refine fn0 (nt := 24) (res := [.tmp 4]) Try.func58 rfl (by decide) rfl rfl rfl rfl ?_
  intro Cx hP hnt hl
  refine awp_sx prog_ok hP hnt [] [] [] [0, 1] (by kernel_rfl) (G := fun K => K (St.mk [(0, V.d (rp ps)), (1, V.d (rp qs))] [] 1)) (fun K => by kernel_rfl) ?_
  refine awp_sx prog_ok hP hnt [] [] [] [0, 1, 5] (by kernel_rfl) (G := fun K => K (St.mk [(0, V.d (rp ps)), (1, V.d (rp qs)), (5, V.nil)] [] 2)) (fun K => by kernel_rfl) ?_
  refine awp_cut (ι := Unit) (fun _ => ⟨[(5, .d (rp (cp (S 0))))], [], 0⟩) (fun _ => True) ?_ ?_
  · refine awp_sx prog_ok hP hnt [(9, .int .i64 ((N : Int) - 1))] [] [] [0, 1, 5, 6] (by kernel_rfl) (G := fun K => IntKind.i64.wrap ((↑ps.length : Int) - (1 : Int)) = (↑N : Int) - (1 : Int) ∧ K (St.mk [(0, V.d (rp ps)), (1, V.d (rp qs)), (5, V.nil), (6, V.d (D.int IntKind.i64 ((↑N : Int) - (1 : Int))))] [] 6)) (fun K => by kernel_rfl) ?_
    refine ⟨by rw [← hN, w64] <;> omega, ?_⟩
    refine awp_block ?_
    refine awp_loop (ι := Nat) (fun n => ⟨[(0, .d (rp ps)), (1, .d (rp qs)), (5, .d (rp (cp (S n)))), (6, .d (.int .i64 ((n : Int) - 1)))], [], 0⟩)
      (fun n => n ≤ N) (fun n => n) N [] (by simp) ?_ ?_
    · (constructor <;> simp [hl, envOk, memOk, conv, St.get, St.blk, hSN, cp_zero, rp, rc])
    intro n hn
    refine awp_seq_k fun K1 hK1 => ?_
    refine awp_sx prog_ok hP hnt [] [] [] [0, 1, 5, 6, 11] (by kernel_rfl) (G := fun K => K (St.mk [(0, V.d (rp ps)), (1, V.d (rp qs)), (5, V.d (rp (cp (S n)))), (6, V.d (D.int IntKind.i64 ((↑n : Int) - (1 : Int)))), (11, V.d (D.bool (decide ((↑n : Int) - (1 : Int) ≥ (0 : Int)))))] [] 2)) (fun K => by kernel_rfl) ?_
    refine awp_cond rfl (fun e => awp_skip (hK1 _ ?_)) (fun e => awp_exit ⟨(), [], trivial, ?_⟩)
    · simp at e
      obtain ⟨k, rfl⟩ : ∃ k, n = k + 1 := ⟨n - 1, by omega⟩
      have ek : ((k + 1 : Nat) : Int) - 1 = k := by omega
      rw [ek]
      obtain ⟨p, hp1⟩ := get_ex (l := ps) (i := k) (by omega)
      have hpo := hp.ok p (List.mem_of_getElem? hp1)
      have hb1 := hSb (N - (k + 1)) (by omega)
      rw [show N - (N - (k + 1)) = k + 1 by omega] at hb1
      have q1 : (N - (k + 1)) * m ≤ N * m := Nat.mul_le_mul_right _ (by omega)
      have q2 : (N - (k + 1)) * (L + s + 1) + (L + s + 1) ≤ N * (L + s + 1) := by rw [← Nat.succ_mul]; exact Nat.mul_le_mul_right _ (by omega)
      have m1 := mulP hi (hb1.w (i := i) (by omega) (by omega)) hq
      rw [pol_cp, ← hgd] at m1
      have hb2 := Bd.mul hb1 hg (s := s) (by omega)
      have m2 := addP (qs := [p]) hi (hb2.w (i := i) (by omega) (by omega)) ⟨by simp; have := Nat.pow_pos (n := i) (a := 2) (by omega); omega, fun q hq => by simp at hq; subst hq; exact hpo⟩
      rw [pol_cp, show S (k + 1) * g + pol [p] = S k by
        rw [hSs k (by omega)]
        congr 1
        refine ext_c fun j => ?_
        rw [pol_c, C_c, co_some hp1]
        cases j with
        | zero => rfl
        | succ j => rw [co_beyond (by simp), if_neg (by omega)]] at m2
      refine awp_seq_k fun K2 hK2 => ?_
      refine awp_block ?_
      refine awp_x prog_ok hP hnt [] [.val (.d (rp (cp (S (k + 1) * g)))), .val (.d (rp (cp (S k))))] [some [.bool p.1, du p.2]] [0, 1, 5, 6] (by kernel_rfl) (G := fun K => Fn Try.prog 44 [V.d (rp (cp (S (k + 1)))), V.d (rp qs)] [] (V.d (rp (cp (S (k + 1) * g)))) [] ∧ ((0 : Int) ≤ (↑k : Int) ∧ (↑k : Int) < (↑ps.length : Int) ∧ ((↑k : Int).toNat + 1) * 2 ≤ (rc ps).length) ∧ ((List.drop ((↑k : Int).toNat * 2) (rc ps))[0]? = some (D.bool p.fst) ∧ (List.drop ((↑k : Int).toNat * 2) (rc ps))[1]? = some (du p.snd)) ∧ Fn Try.prog 48 [V.d (rp (cp (S (k + 1) * g))), V.d (D.lst 1 [D.bool p.fst, du p.snd])] [] (V.d (rp (cp (S k)))) [] ∧ K (St.mk [(0, V.d (rp ps)), (1, V.d (rp qs)), (5, V.d (rp (cp (S k)))), (6, V.d (D.int IntKind.i64 (↑k : Int)))] [] 12)) (fun K => by kernel_rfl) ?_
      refine ⟨m1, ⟨by omega, by omega, by simp; omega⟩, by rw [rc_drop0 hp1]; exact ⟨rfl, rfl⟩, m2, hK2 _ ?_⟩
      refine awp_x prog_ok hP hnt [(13, .int .i64 ((k : Int) - 1))] [] [] [0, 1, 5, 6] (by kernel_rfl) (G := fun K => IntKind.i64.wrap ((↑k : Int) - (1 : Int)) = (↑k : Int) - (1 : Int) ∧ K (St.mk [(0, V.d (rp ps)), (1, V.d (rp qs)), (5, V.d (rp (cp (S k)))), (6, V.d (D.int IntKind.i64 ((↑k : Int) - (1 : Int))))] [] 15)) (fun K => by kernel_rfl) ?_
      refine ⟨by rw [w64] <;> omega, k, [], ⟨by omega, by omega⟩, ?_⟩
      (constructor <;> simp [hl, envOk, memOk, conv, St.get, St.blk])
    · simp at e
      have : n = 0 := by omega
      subst this
      (constructor <;> simp [hl, envOk, memOk, conv, St.get, St.blk])
  intro _ _
  refine awp_sx prog_ok hP hnt [] [] [] [4] (by kernel_rfl) (G := fun K => K (St.mk [(4, V.d (rp (cp (S 0))))] [] 2)) (fun K => by kernel_rfl) ?_
  exact awp_ret ⟨.inl rfl, retD rfl⟩

theorem zl_zero : zl (cs 0) = D.lst 0 [] := by rw [cs_zero]; rfl
theorem zpcomp_fn {n m K L s i : Nat} {f g : Poly} (hi : i ≤ 10) (hn40 : n ≤ 2 ^ 40) (hf : Bd n K f) (hg : Bd m L g) (hs : n * m + 1 < 2 ^ s) (h1 : n * m + m + 1 ≤ 100 * 2 ^ i) (h2 : K + n * (L + s + 1) + L + s + 2 ≤ 1280 * 4 ^ i) :
    Fn Try.prog 54 [.d (zl (cs f)), .d (zl (cs g))] [] (.d (zl (cs (comp f g)))) [] := by
  obtain ⟨N, hN⟩ : ∃ N, N = f.sz := ⟨_, rfl⟩
  have hNn : N ≤ n := hN ▸ hf.len
  have hl2 := lim2 (i := i) (by omega)
  have hl4 := lim4 (i := i) (by omega)
  have hpb : ∀ j, j ≤ N → Bd (j * m + 1) (j * (L + s) + 1) (ppow g j) := fun j => by
    induction j with
    | zero => intro _; exact Bd.one (by omega) (by omega)
    | succ j ih =>
      intro hj
      have hjm : j * m ≤ n * m := Nat.mul_le_mul_right _ (by omega)
      have := Bd.mul (ih (by omega)) hg (s := s) (by omega)
      exact this.mono (by rw [Nat.succ_mul]; omega) (by rw [Nat.succ_mul]; omega)
  obtain ⟨S, hS0, hS⟩ : ∃ S : Nat → Poly, S 0 = 0 ∧ ∀ j, S (j + 1) = S j + C (f.c j) * ppow g j :=
    ⟨fun j => Nat.rec 0 (fun j p => p + C (f.c j) * ppow g j) j, rfl, fun _ => rfl⟩
  have hSe : ∀ j, j ≤ N → ∀ x, (S j).ev x = (polL ((cs f).take j)).ev (g.ev x) := fun j => by
    induction j with
    | zero => intro _ x; rw [hS0, List.take_zero, ev_polL_nil]; simp
    | succ j ih =>
      intro hj x
      rw [hS, ev_add, ih (by omega), take_snoc (by simp; omega), ev_polL_app, ev_polL_cons, ev_polL_nil, cs_getD, List.length_take, Nat.min_eq_left (by simp; omega)]
      simp; grind
  have hSN : S N = comp f g := ext_ev fun x _ => by
    rw [hSe N (Nat.le_refl _), List.take_of_length_le (by simp; omega), ev_cs]; simp
  have hcb : ∀ j, j ≤ N → Bd (j * m + 1) (j * (L + s) + 1 + K) (C (f.c j) * ppow g j) := fun j hj => (hpb j hj).cmul (hf.ok j)
  have hSb : ∀ j, j ≤ N → Bd (j * m + 1) (K + j * (L + s + 1) + 1) (S j) := fun j => by
    induction j with
    | zero => intro _; rw [hS0]; exact Bd.zero
    | succ j ih =>
      intro hj
      rw [hS]
      refine (Bd.add (ih (by omega)) (hcb j (by omega))).mono (by rw [Nat.succ_mul]; omega) ?_
      have e1 : j * (L + s) ≤ j * (L + s + 1) := Nat.mul_le_mul_left _ (by omega)
      rw [Nat.succ_mul]; omega
  have hone := zsmall_fn 1 (by decide)
  have hz1 : zl (cs (ppow g 0)) = D.lst 1 [D.int IntKind.i64 (Int.sign 1), ib (Abs.db 2 (Int.natAbs 1))] := by
    show zl (cs 1) = _
    rw [cs_one]; rfl
  refine fn0 (nt := 28) (res := [.tmp 4]) Try.func54 rfl (by decide) rfl rfl rfl rfl ?_
  intro Cx hP hnt hl
  refine awp_sx prog_ok hP hnt [] [] [] [0, 1] (by kernel_rfl) (G := fun K => K (St.mk [(0, V.d (zl (cs f))), (1, V.d (zl (cs g)))] [] 1)) (fun K => by kernel_rfl) ?_
  refine awp_sx prog_ok hP hnt [] [] [] [0, 1, 5] (by kernel_rfl) (G := fun K => K (St.mk [(0, V.d (zl (cs f))), (1, V.d (zl (cs g))), (5, V.nil)] [] 2)) (fun K => by kernel_rfl) ?_
  refine awp_sx prog_ok hP hnt [] [.val (.agg (zc 1))] [] [0, 1, 5, 6] (by kernel_rfl) (G := fun K => Fn Try.prog 41 [V.d (D.int IntKind.i64 (1 : Int))] [] (V.agg [D.int IntKind.i64 (Int.sign (1 : Int)), ib (db 2 (Int.natAbs (1 : Int)))]) [] ∧ K (St.mk [(0, V.d (zl (cs f))), (1, V.d (zl (cs g))), (5, V.nil), (6, V.d (D.lst 1 [D.int IntKind.i64 (Int.sign (1 : Int)), ib (db 2 (Int.natAbs (1 : Int)))]))] [] 5)) (fun K => by kernel_rfl) ?_
  refine ⟨hone, ?_⟩
  refine awp_cut (ι := Unit) (fun _ => ⟨[(5, .d (zl (cs (S N))))], [], 0⟩) (fun _ => True) ?_ ?_
  · refine awp_sx prog_ok hP hnt [] [] [] [0, 1, 5, 6, 7] (by kernel_rfl) (G := fun K => K (St.mk [(0, V.d (zl (cs f))), (1, V.d (zl (cs g))), (5, V.nil), (6, V.d (D.lst 1 [D.int IntKind.i64 (Int.sign (1 : Int)), ib (db 2 (Int.natAbs (1 : Int)))])), (7, V.d (D.int IntKind.i64 (0 : Int)))] [] 6)) (fun K => by kernel_rfl) ?_
    refine awp_block ?_
    refine awp_loop (ι := Nat) (fun j => ⟨[(0, .d (zl (cs f))), (1, .d (zl (cs g))), (5, .d (zl (cs (S j)))), (6, .d (zl (cs (ppow g j)))), (7, .d (.int .i64 j))], [], 0⟩)
      (fun j => j ≤ N) (fun j => N - j) 0 [] (by simp) ?_ ?_
    · (constructor <;> simp [hl, envOk, memOk, conv, St.get, St.blk, hS0, hz1, zl_zero])
    intro j hj
    refine awp_seq_k fun K1 hK1 => ?_
    refine awp_sx prog_ok hP hnt [] [] [] [0, 1, 5, 6, 7, 13] (by kernel_rfl) (G := fun K => K (St.mk [(0, V.d (zl (cs f))), (1, V.d (zl (cs g))), (5, V.d (zl (cs (S j)))), (6, V.d (zl (cs (g.ppow j)))), (7, V.d (D.int IntKind.i64 (↑j : Int))), (13, V.d (D.bool (decide ((↑j : Int) < (↑(cs f).length : Int)))))] [] 4)) (fun K => by kernel_rfl) ?_
    refine awp_cond rfl (fun e => awp_skip (hK1 _ ?_)) (fun e => awp_exit ⟨(), [], trivial, ?_⟩)
    · simp at e
      have hj2 : j < N := by omega
      have hx := cs_get f j (by omega)
      have q1 : j * m ≤ n * m := Nat.mul_le_mul_right _ (by omega)
      have q2 : j * (L + s + 1) + (L + s + 1) ≤ n * (L + s + 1) := by rw [← Nat.succ_mul]; exact Nat.mul_le_mul_right _ (by omega)
      have q3 : j * (L + s) ≤ j * (L + s + 1) := Nat.mul_le_mul_left _ (by omega)
      have lp := (hpb j hj).lv (i := i) (by omega) (by omega)
      have c1 := zscaleL (i := i) (by omega) lp (Nat.lt_of_lt_of_le (hf.ok j) (pw (by omega)))
      have c2 := zaddL (i := i) (by omega) ((hSb j hj).lv (i := i) (by omega) (by omega)) ((hcb j hj).lv (i := i) (by omega) (by omega))
      rw [← hS] at c2
      have c3 := zmulL (i := i) (by omega) lp ((hg.mono (Nat.le_refl m) (Nat.le_refl L)).lv (i := i) (by omega) (by omega))
      refine awp_seq_k fun K2 hK2 => ?_
      refine awp_block ?_
      refine awp_sx prog_ok hP hnt [] [.val (.d (zl (cs (C (f.c j) * ppow g j)))), .val (.d (zl (cs (S (j + 1)))))] [some (zc (f.c j))] [0, 1, 5, 6, 7] (by kernel_rfl) (G := fun K => ((0 : Int) ≤ (↑j : Int) ∧ (↑j : Int) < (↑(cs f).length : Int) ∧ ((↑j : Int).toNat + 1) * 2 ≤ (zcs (cs f)).length) ∧ ((List.drop ((↑j : Int).toNat * 2) (zcs (cs f)))[0]? = some (D.int IntKind.i64 (f.c j).sign) ∧ (List.drop ((↑j : Int).toNat * 2) (zcs (cs f)))[1]? = some (ib (db 2 (f.c j).natAbs))) ∧ Fn Try.prog 65 [V.d (zl (cs (g.ppow j))), V.agg [D.int IntKind.i64 (f.c j).sign, ib (db 2 (f.c j).natAbs)]] [] (V.d (zl (cs (C (f.c j) * g.ppow j)))) [] ∧ Fn Try.prog 64 [V.d (zl (cs (S j))), V.d (zl (cs (C (f.c j) * g.ppow j)))] [] (V.d (zl (cs (S (j + 1))))) [] ∧ K (St.mk [(0, V.d (zl (cs f))), (1, V.d (zl (cs g))), (5, V.d (zl (cs (S (j + 1))))), (6, V.d (zl (cs (g.ppow j)))), (7, V.d (D.int IntKind.i64 (↑j : Int)))] [] 13)) (fun K => by kernel_rfl) ?_
      refine ⟨⟨by omega, by simp; omega, by simp; omega⟩, by rw [zcs_drop hx]; exact ⟨rfl, rfl⟩, c1, c2, ?_⟩
      refine awp_x prog_ok hP hnt [] [.val (.d (zl (cs (ppow g (j + 1)))))] [] [0, 1, 5, 6, 7] (by kernel_rfl) (G := fun K => Fn Try.prog 42 [V.d (zl (cs (g.ppow j))), V.d (zl (cs g))] [] (V.d (zl (cs (g.ppow (j + 1))))) [] ∧ K (St.mk [(0, V.d (zl (cs f))), (1, V.d (zl (cs g))), (5, V.d (zl (cs (S (j + 1))))), (6, V.d (zl (cs (g.ppow (j + 1))))), (7, V.d (D.int IntKind.i64 (↑j : Int)))] [] 17)) (fun K => by kernel_rfl) ?_
      refine ⟨c3, hK2 _ ?_⟩
      refine awp_x prog_ok hP hnt [(15, .int .i64 (j + 1 : Nat))] [] [] [0, 1, 5, 6, 7] (by kernel_rfl) (G := fun K => IntKind.i64.wrap ((↑j : Int) + (1 : Int)) = (↑(j + 1) : Int) ∧ K (St.mk [(0, V.d (zl (cs f))), (1, V.d (zl (cs g))), (5, V.d (zl (cs (S (j + 1))))), (6, V.d (zl (cs (g.ppow (j + 1))))), (7, V.d (D.int IntKind.i64 (↑(j + 1) : Int)))] [] 20)) (fun K => by kernel_rfl) ?_
      refine ⟨by rw [w64] <;> omega, j + 1, [], ⟨by omega, by omega⟩, ?_⟩
      (constructor <;> simp [hl, envOk, memOk, conv, St.get, St.blk])
    · simp at e
      have : j = N := by omega
      subst this
      (constructor <;> simp [hl, envOk, memOk, conv, St.get, St.blk])
  intro _ _
  refine awp_sx prog_ok hP hnt [] [] [] [4] (by kernel_rfl) (G := fun K => K (St.mk [(4, V.d (zl (cs (S N))))] [] 2)) (fun K => by kernel_rfl) ?_
  refine awp_ret ⟨.inl rfl, retD ?_⟩
  rw [hSN]; rfl
end Go.Abs

set_option linter.unusedVariables false
set_option linter.unusedSimpArgs false
namespace Go.Abs
open Go Go.Proofs Poly
set_option maxRecDepth 100000

theorem isT {f g : Poly} {n K : Nat} (hf : Bd n K f) (hn : n ≤ 2 ^ 36) (hK : K ≤ 2 ^ 36) (e : g = f) : Fn Try.prog 43 [.d (rp (cp g)), .d (zl (cs f))] [] (.d (.bool true)) [] := by
  subst e
  have := lis_fn (cp g) g (fun p hp => by
    rw [cp_ro] at hp
    simp only [ro, List.mem_map] at hp
    obtain ⟨z, hz, rfl⟩ := hp
    have := (riz_bits (K := K) (z := z) (Bz.cs hf.ok z hz) (by omega)).2
    omega) (by have := hf.len; simp; omega) (K := K) (by omega) hf.ok
  rwa [decide_eq_true rfl] at this
theorem few_bd {a b : Nat} {ps : List RI} (hd : ∀ p ∈ ps, Dg p.2) (h : few a b ps = true) : Bd a (32 * b) (pol ps) := by
  have := few_sz hd h
  refine ⟨Nat.le_trans (pol_sz ps) this.1, fun k => ?_⟩
  have h1 := co_abs this.2 k
  rwa [show (4294967296 : Nat) = 2 ^ 32 by rfl, ← Nat.pow_mul] at h1
theorem val_bits {s : Bool} {l : List Nat} {b : Nat} (hd : Dg l) (h : l.length ≤ b) : (ival s l).natAbs < 2 ^ (32 * b) := by
  unfold ival; rw [sgn_abs]
  have h1 := val_lt hd
  rw [show (4294967296 : Nat) = 2 ^ 32 by rfl, ← Nat.pow_mul] at h1
  exact Nat.lt_of_lt_of_le h1 (pw (by omega))

theorem polL2 (a b : Int) : polL [a, b] = C a + C b * X := ext_ev fun x _ => by rw [ev_polL_cons, ev_polL_cons, ev_polL_nil]; simp; grind
theorem zl2 (a b : Int) : zl [a, b] = D.lst 2 [.int .i64 a.sign, ib (Abs.db 2 a.natAbs), .int .i64 b.sign, ib (Abs.db 2 b.natAbs)] := rfl

theorem changes_fn (a b : List RI) (c : RI) (da : ∀ p ∈ a, Dg p.2) (db : ∀ p ∈ b, Dg p.2) (dc : Dg c.2) :
    Fn Try.prog 5 [.d (rp a), .d (rp b), .agg (ic c.1 c.2)] [] (.d (.bool true)) [] := by
  refine fn0 (nt := 89) (res := [.tmp 6]) Try.func5 rfl (by decide) rfl rfl rfl rfl ?_
  intro Cx hP hnt hl
  obtain ⟨cs1, cl⟩ := c
  simp only at dc ⊢
  have fa := few_fn 8 2 a (by omega) (by omega)
  have fb := few_fn 4 2 b (by omega) (by omega)
  refine awp_sx prog_ok hP hnt [] [] [] [0, 1, 5] (by kernel_rfl) (G := fun K => K (St.mk [(0, V.d (rp a)), (1, V.d (rp b)), (5, V.ptr 0 0)] [(0, some (Blk.mk [D.bool cs1, du cl] true))] 2)) (fun K => by kernel_rfl) ?_
  refine awp_cut (ι := Unit) (fun _ => ⟨[(0, .d (rp a)), (1, .d (rp b)), (5, .ptr 0 0)], [(0, some ⟨ic cs1 cl, true⟩)], 1⟩) (fun _ => few 8 2 a = true ∧ few 4 2 b = true ∧ cl.length ≤ 2) ?_ ?_
  · cases ea : few 8 2 a with
    | false =>
      rw [ea] at fa
      refine awp_sx prog_ok hP hnt [(13, .bool false), (18, .bool true), (23, .bool true)] [.val (.d (.bool true)), .val (.d (.bool false))] [] [0, 1, 5, 29] (by kernel_rfl) (G := fun K => Fn Try.prog 38 [] [] (V.d (D.bool true)) [] ∧ (!true) = false ∧ Fn Try.prog 39 [V.d (D.int IntKind.i64 (8 : Int)), V.d (D.int IntKind.i64 (2 : Int)), V.d (rp a)] [] (V.d (D.bool false)) [] ∧ (!false) = true ∧ true = true ∧ K (St.mk [(0, V.d (rp a)), (1, V.d (rp b)), (5, V.ptr 0 0), (29, V.d (D.bool true))] [(0, some (Blk.mk [D.bool cs1, du cl] true))] 20)) (fun K => by kernel_rfl) ?_
      refine ⟨awake_fn, rfl, fa, rfl, rfl, awp_cond (b := true) rfl (fun _ => ?_) nofun⟩
      refine awp_sx prog_ok hP hnt [] [.val (.d (.bool true))] [] [6] (by kernel_rfl) (G := fun K => Fn Try.prog 38 [] [] (V.d (D.bool true)) [] ∧ K (St.mk [(6, V.d (D.bool true))] [(0, some (Blk.mk [D.bool cs1, du cl] true))] 22)) (fun K => by kernel_rfl) ?_
      exact ⟨awake_fn, awp_ret ⟨.inl rfl, retD rfl⟩⟩
    | true =>
      rw [ea] at fa
      cases eb : few 4 2 b with
      | false =>
        rw [eb] at fb
        refine awp_sx prog_ok hP hnt [(13, .bool false), (18, .bool false), (23, .bool true)] [.val (.d (.bool true)), .val (.d (.bool true)), .val (.d (.bool false))] [] [0, 1, 5, 29] (by kernel_rfl) (G := fun K => Fn Try.prog 38 [] [] (V.d (D.bool true)) [] ∧ (!true) = false ∧ Fn Try.prog 39 [V.d (D.int IntKind.i64 (8 : Int)), V.d (D.int IntKind.i64 (2 : Int)), V.d (rp a)] [] (V.d (D.bool true)) [] ∧ (!true) = false ∧ Fn Try.prog 39 [V.d (D.int IntKind.i64 (4 : Int)), V.d (D.int IntKind.i64 (2 : Int)), V.d (rp b)] [] (V.d (D.bool false)) [] ∧ (!false) = true ∧ K (St.mk [(0, V.d (rp a)), (1, V.d (rp b)), (5, V.ptr 0 0), (29, V.d (D.bool true))] [(0, some (Blk.mk [D.bool cs1, du cl] true))] 20)) (fun K => by kernel_rfl) ?_
        refine ⟨awake_fn, rfl, fa, rfl, fb, rfl, awp_cond (b := true) rfl (fun _ => ?_) nofun⟩
        refine awp_sx prog_ok hP hnt [] [.val (.d (.bool true))] [] [6] (by kernel_rfl) (G := fun K => Fn Try.prog 38 [] [] (V.d (D.bool true)) [] ∧ K (St.mk [(6, V.d (D.bool true))] [(0, some (Blk.mk [D.bool cs1, du cl] true))] 22)) (fun K => by kernel_rfl) ?_
        exact ⟨awake_fn, awp_ret ⟨.inl rfl, retD rfl⟩⟩
      | true =>
        rw [eb] at fb
        refine awp_sx prog_ok hP hnt [(13, .bool false), (18, .bool false), (23, .bool false)] [.val (.d (.bool true)), .val (.d (.bool true)), .val (.d (.bool true))] [some [du cl]] [0, 1, 5, 29] (by kernel_rfl) (G := fun K => Fn Try.prog 38 [] [] (V.d (D.bool true)) [] ∧ (!true) = false ∧ Fn Try.prog 39 [V.d (D.int IntKind.i64 (8 : Int)), V.d (D.int IntKind.i64 (2 : Int)), V.d (rp a)] [] (V.d (D.bool true)) [] ∧ (!true) = false ∧ Fn Try.prog 39 [V.d (D.int IntKind.i64 (4 : Int)), V.d (D.int IntKind.i64 (2 : Int)), V.d (rp b)] [] (V.d (D.bool true)) [] ∧ (!true) = false ∧ [D.bool cs1, du cl][1]? = some (du cl) ∧ K (St.mk [(0, V.d (rp a)), (1, V.d (rp b)), (5, V.ptr 0 0), (29, V.d (D.bool (decide ((↑cl.length : Int) > (2 : Int)))))] [(0, some (Blk.mk [D.bool cs1, du cl] true))] 20)) (fun K => by kernel_rfl) ?_
        refine ⟨awake_fn, rfl, fa, rfl, fb, rfl, rfl, awp_cond rfl (fun h => ?_) (fun h => awp_skip ⟨(), [(0, 0)], ⟨rfl, rfl, ?_⟩, ?_⟩)⟩
        · refine awp_sx prog_ok hP hnt [] [.val (.d (.bool true))] [] [6] (by kernel_rfl) (G := fun K => Fn Try.prog 38 [] [] (V.d (D.bool true)) [] ∧ K (St.mk [(6, V.d (D.bool true))] [(0, some (Blk.mk [D.bool cs1, du cl] true))] 22)) (fun K => by kernel_rfl) ?_
          exact ⟨awake_fn, awp_ret ⟨.inl rfl, retD rfl⟩⟩
        · simp at h; omega
        · (constructor <;> simp [hl, envOk, memOk, conv, St.get, St.blk, ic])
  intro _ ⟨ea, eb, ec⟩
  have wa := few_w da ea (by omega) (by omega)
  have wb := few_w db eb (by omega) (by omega)
  have ba := few_bd da ea
  have bb := few_bd db eb
  have la := (of_decide_eq_true ea).1
  have lb := (of_decide_eq_true eb).1
  have cob : ∀ k, (co a k).natAbs < 2 ^ 64 := ba.ok
  have hcb := val_bits (s := cs1) dc ec
  obtain ⟨f, hf⟩ : ∃ f, f = pol a := ⟨_, rfl⟩
  obtain ⟨g, hg⟩ : ∃ g, g = pol b := ⟨_, rfl⟩
  obtain ⟨c, hc⟩ : ∃ c, c = ival cs1 cl := ⟨_, rfl⟩
  have oa := ofL (by omega) wa
  have ob := ofL (by omega) wb
  have qz := z_fn cs1 cl dc (by omega)
  have hpn : a.length ≤ 2 ^ 39 := by omega
  have hpo : Pok (2 ^ 39) a := pok_mono (by omega) wa.ok
  obtain ⟨s1, s2⟩ := shiftP (n := 8) (K := 64) (L := 64) (s := cs1) (l := cl) hpn hpo ba dc (by omega) hcb (by omega) (by omega)
  obtain ⟨t1, t2⟩ := stretchP (n := 8) (K := 64) (L := 64) (s := cs1) (l := cl) hpn hpo ba dc (by omega) hcb (by omega) (by omega)
  obtain ⟨r1, r2⟩ := reverseP (by omega) wa
  have ham : a.length * 4 ≤ 8 * 4 := Nat.mul_le_mul_right _ la
  have hal : a.length * (64 + 6 + 1) ≤ 8 * (64 + 6 + 1) := Nat.mul_le_mul_right _ la
  obtain ⟨c1, c2⟩ := composeP (i := 0) (m := 4) (K := 64) (L := 64) (s := 6) (by omega) wa wb cob bb (by omega) (by omega) (by omega)
  rw [← hf] at ba oa s1 s2 t1 t2 r1 r2 c1 c2
  rw [← hg] at bb ob c1 c2
  rw [← hc] at hcb qz s1 s2 t1 t2
  have hone := zsmall_fn 1 (by decide)
  have hbz1 : Bz 64 [c, 1] := by
    intro z hz
    simp at hz
    rcases hz with rfl | rfl
    · exact hcb
    · decide
  have hbz2 : Bz 64 [0, c] := by
    intro z hz
    simp at hz
    rcases hz with rfl | rfl
    · decide
    · exact hcb
  have b1 : Bd 2 64 (polL [c, 1]) := ⟨polL_sz _, fun k => hbz1.getD k⟩
  have b2 : Bd 2 64 (polL [0, c]) := ⟨polL_sz _, fun k => hbz2.getD k⟩
  have z1 := ztrim_fn [c, 1] (by simp)
  have z2 := ztrim_fn [0, c] (by simp)
  have k1 := zpcomp_fn (n := 8) (m := 2) (K := 64) (L := 64) (s := 6) (i := 0) (by omega) (by omega) ba b1 (by omega) (by omega) (by omega)
  have k2 := zpcomp_fn (n := 8) (m := 2) (K := 64) (L := 64) (s := 6) (i := 0) (by omega) (by omega) ba b2 (by omega) (by omega) (by omega)
  have k3 := zpcomp_fn (n := 8) (m := 4) (K := 64) (L := 64) (s := 6) (i := 0) (by omega) (by omega) ba bb (by omega) (by omega) (by omega)
  rw [show comp f (polL [c, 1]) = comp f (X + C c) from ext_ev fun x _ => by rw [polL2]; simp; congr 1; omega] at k1
  rw [show comp f (polL [0, c]) = strP f c from ext_ev fun x _ => by rw [polL2]; simp] at k2
  -- the coefficients backwards
  obtain ⟨N, hN⟩ : ∃ N, N = f.sz := ⟨_, rfl⟩
  have hN8 : N ≤ 8 := hN ▸ ba.len
  rw [← hN] at r1 r2
  have z3 := ztrim_fn (tb (revP f N).c N) (by simp; omega)
  rw [polL_tb (f := revP f N) (fun k hk => by rw [revP_c, if_neg (by omega)])] at z3
  have i1 := isT (n := 8) (K := 64 + 8 * 8 * (64 + 1)) s2 (by omega) (by omega) rfl
  have i2 := isT (n := 8) (K := 64 + 8 * 64 + 1) t2 (by omega) (by omega) rfl
  have i3 := isT r2.bd (by omega) (by omega) rfl
  have i4 := isT c2 (by omega) (by omega) rfl
  refine awp_sx prog_ok hP hnt [] [.val (.d (zl (cs f))), .val (.agg (zc c))] [some (ic cs1 cl)] [0, 1, 5, 7, 8] (by kernel_rfl) (G := fun K => Fn Try.prog 40 [V.d (rp a)] [] (V.d (zl (cs f))) [] ∧ ((ic cs1 cl)[0]? = some (D.bool cs1) ∧ (ic cs1 cl)[1]? = some (du cl)) ∧ Fn Try.prog 52 [V.agg [D.bool cs1, du cl]] [] (V.agg [D.int IntKind.i64 c.sign, ib (Abs.db 2 c.natAbs)]) [] ∧ 0 + (zc c).length ≤ (TI.mk (Kind.struct [(0, 1), (1, 1)]) 2 32 [D.int IntKind.i64 (0 : Int), D.lst 0 []]).zero.length ∧ K (St.mk [(0, V.d (rp a)), (1, V.d (rp b)), (5, V.ptr 0 0), (8, V.ptr 5 0), (7, V.d (zl (cs f)))] [(0, some (Blk.mk [D.bool cs1, du cl] true)), (5, some (Blk.mk [D.int IntKind.i64 c.sign, ib (Abs.db 2 c.natAbs)] true))] 8)) (fun K => by kernel_rfl) ?_
  refine ⟨oa, ⟨rfl, rfl⟩, qz, by simp [zc_len], ?_⟩
  refine awp_sx prog_ok hP hnt [] [] [] [0, 1, 5, 7, 8, 9] (by kernel_rfl) (G := fun K => K (St.mk [(0, V.d (rp a)), (1, V.d (rp b)), (5, V.ptr 0 0), (8, V.ptr 5 0), (7, V.d (zl (cs f))), (9, V.nil)] [(0, some (Blk.mk [D.bool cs1, du cl] true)), (5, some (Blk.mk [D.int IntKind.i64 c.sign, ib (Abs.db 2 c.natAbs)] true))] 9)) (fun K => by kernel_rfl) ?_
  refine awp_cut (ι := Unit) (fun _ => ⟨[(0, .d (rp a)), (1, .d (rp b)), (5, .ptr 0 0), (7, .d (zl (cs f))), (8, .ptr 1 0), (9, .own 2 0 N 2)], [(0, some ⟨ic cs1 cl, true⟩), (1, some ⟨zc c, true⟩), (2, some ⟨zcs (tb (revP f N).c N), true⟩)], 3⟩) (fun _ => True) ?_ ?_
  · refine awp_sx prog_ok hP hnt [(37, .int .i64 ((N : Int) - 1))] [] [] [0, 1, 5, 7, 8, 9, 10] (by kernel_rfl) (G := fun K => IntKind.i64.wrap ((↑(cs f).length : Int) - (1 : Int)) = (↑N : Int) - (1 : Int) ∧ K (St.mk [(0, V.d (rp a)), (1, V.d (rp b)), (5, V.ptr 0 0), (8, V.ptr 5 0), (7, V.d (zl (cs f))), (9, V.nil), (10, V.d (D.int IntKind.i64 ((↑N : Int) - (1 : Int))))] [(0, some (Blk.mk [D.bool cs1, du cl] true)), (5, some (Blk.mk [D.int IntKind.i64 c.sign, ib (Abs.db 2 c.natAbs)] true))] 13)) (fun K => by kernel_rfl) ?_
    refine ⟨by rw [cs_len, ← hN, w64] <;> omega, ?_⟩
    refine awp_block ?_
    refine awp_loop (ι := Nat) (fun j => ⟨[(0, .d (rp a)), (1, .d (rp b)), (5, .ptr 0 0), (7, .d (zl (cs f))), (8, .ptr 1 0), (9, .own 2 0 j 2), (10, .d (.int .i64 ((N : Int) - 1 - j)))], [(0, some ⟨ic cs1 cl, true⟩), (1, some ⟨zc c, true⟩), (2, some ⟨zcs (tb (revP f N).c j), true⟩)], 3⟩)
      (fun j => j ≤ N) (fun j => N - j) 0 [(0, 0), (1, 5)] (by simp) ?_ ?_
    · (constructor <;> simp [hl, envOk, memOk, conv, St.get, St.blk, zcs, fm, tb, ic, zc])
    intro j hj
    refine awp_seq_k fun K1 hK1 => ?_
    refine awp_sx prog_ok hP hnt [] [] [] [0, 1, 5, 7, 8, 9, 10, 39] (by kernel_rfl) (G := fun K => K (St.mk [(0, V.d (rp a)), (1, V.d (rp b)), (5, V.ptr 0 0), (7, V.d (zl (cs f))), (8, V.ptr 1 0), (9, V.own 2 0 j 2), (10, V.d (D.int IntKind.i64 ((↑N : Int) - (1 : Int) - (↑j : Int)))), (39, V.d (D.bool (decide ((↑N : Int) - (1 : Int) - (↑j : Int) ≥ (0 : Int)))))] [(0, some (Blk.mk [D.bool cs1, du cl] true)), (1, some (Blk.mk [D.int IntKind.i64 c.sign, ib (Abs.db 2 c.natAbs)] true)), (2, some (Blk.mk (zcs (tb (revP f N).c j)) true))] 5)) (fun K => by kernel_rfl) ?_
    refine awp_cond rfl (fun e => awp_skip (hK1 _ ?_)) (fun e => awp_exit ⟨(), [(0, 0), (1, 1), (2, 2)], trivial, ?_⟩)
    · simp at e
      have ej : (N : Int) - 1 - j = ((N - 1 - j : Nat) : Int) := by omega
      rw [ej]
      have hx := cs_get f (N - 1 - j) (by omega)
      have hr : (revP f N).c j = f.c (N - 1 - j) := by rw [revP_c, if_pos (by omega)]
      have happ := zcs_app (tb (revP f N).c j) ((revP f N).c j)
      rw [tb_snoc, hr] at happ
      refine awp_seq_k fun K2 hK2 => ?_
      refine awp_block ?_
      refine awp_x prog_ok hP hnt [] [] [some (zc (f.c (N - 1 - j)))] [0, 1, 5, 7, 8, 9, 10] (by kernel_rfl) (G := fun K => ((0 : Int) ≤ (↑(N - 1 - j) : Int) ∧ (↑(N - 1 - j) : Int) < (↑(cs f).length : Int) ∧ ((↑(N - 1 - j) : Int).toNat + 1) * 2 ≤ (zcs (cs f)).length) ∧ ((List.drop ((↑(N - 1 - j) : Int).toNat * 2) (zcs (cs f)))[0]? = some (D.int IntKind.i64 (f.c (N - 1 - j)).sign) ∧ (List.drop ((↑(N - 1 - j) : Int).toNat * 2) (zcs (cs f)))[1]? = some (ib (Abs.db 2 (f.c (N - 1 - j)).natAbs))) ∧ 2 = 2 ∧ ((zcs (tb (revP f N).c j)).length = j * 2 ∧ (j + 1) * 32 ≤ 2 ^ 47) ∧ K (St.mk [(0, V.d (rp a)), (1, V.d (rp b)), (5, V.ptr 0 0), (7, V.d (zl (cs f))), (8, V.ptr 1 0), (9, V.own 11 0 (j + 1) 2), (10, V.d (D.int IntKind.i64 (↑(N - 1 - j) : Int)))] [(0, some (Blk.mk [D.bool cs1, du cl] true)), (1, some (Blk.mk [D.int IntKind.i64 c.sign, ib (Abs.db 2 c.natAbs)] true)), (2, none), (11, some (Blk.mk (zcs (tb (revP f N).c j) ++ setCells (zeros 1 (TI.mk (Kind.struct [(0, 1), (1, 1)]) 2 32 [D.int IntKind.i64 (0 : Int), D.lst 0 []]).zero) 0 (zc (f.c (N - 1 - j)))) true))] 13)) (fun K => by kernel_rfl) ?_
      refine ⟨⟨by omega, by simp; omega, by simp; omega⟩, by rw [zcs_drop hx]; exact ⟨rfl, rfl⟩, rfl, ⟨by simp, by omega⟩, hK2 _ ?_⟩
      refine awp_x prog_ok hP hnt [(41, .int .i64 ((N : Int) - 1 - (j + 1 : Nat)))] [] [] [0, 1, 5, 7, 8, 9, 10] (by kernel_rfl) (G := fun K => IntKind.i64.wrap ((↑(N - 1 - j) : Int) - (1 : Int)) = (↑N : Int) - (1 : Int) - (↑(j + 1) : Int) ∧ K (St.mk [(0, V.d (rp a)), (1, V.d (rp b)), (5, V.ptr 0 0), (7, V.d (zl (cs f))), (8, V.ptr 1 0), (9, V.own 11 0 (j + 1) 2), (10, V.d (D.int IntKind.i64 ((↑N : Int) - (1 : Int) - (↑(j + 1) : Int))))] [(0, some (Blk.mk [D.bool cs1, du cl] true)), (1, some (Blk.mk [D.int IntKind.i64 c.sign, ib (Abs.db 2 c.natAbs)] true)), (2, none), (11, some (Blk.mk (zcs (tb (revP f N).c j) ++ setCells (zeros 1 (TI.mk (Kind.struct [(0, 1), (1, 1)]) 2 32 [D.int IntKind.i64 (0 : Int), D.lst 0 []]).zero) 0 (zc (f.c (N - 1 - j)))) true))] 16)) (fun K => by kernel_rfl) ?_
      refine ⟨by rw [w64] <;> omega, j + 1, [(0, 0), (1, 1), (2, 11)], ⟨by omega, by omega⟩, ?_⟩
      (constructor <;> simp [hl, envOk, memOk, conv, St.get, St.blk, ← happ, setCells, zeros, zc, ic])
    · simp at e
      have : j = N := by omega
      subst this
      (constructor <;> simp [hl, envOk, memOk, conv, St.get, St.blk, zc, ic])
  intro _ _
  refine awp_sx prog_ok hP hnt [] [.val (.agg (zc 1))] [] [0, 1, 5, 7, 8, 9, 11] (by kernel_rfl) (G := fun K => Fn Try.prog 41 [V.d (D.int IntKind.i64 (1 : Int))] [] (V.agg [D.int IntKind.i64 (Int.sign (1 : Int)), ib (Abs.db 2 (Int.natAbs (1 : Int)))]) [] ∧ 2 ≤ (TI.mk (Kind.struct [(0, 1), (1, 1)]) 2 32 [D.int IntKind.i64 (0 : Int), D.lst 0 []]).zero.length ∧ K (St.mk [(0, V.d (rp a)), (1, V.d (rp b)), (5, V.ptr 0 0), (7, V.d (zl (cs f))), (8, V.ptr 1 0), (9, V.own 2 0 N 2), (11, V.ptr 4 0)] [(0, some (Blk.mk [D.bool cs1, du cl] true)), (1, some (Blk.mk [D.int IntKind.i64 c.sign, ib (Abs.db 2 c.natAbs)] true)), (2, some (Blk.mk (zcs (tb (revP f N).c N)) true)), (4, some (Blk.mk [D.int IntKind.i64 (Int.sign (1 : Int)), ib (Abs.db 2 (Int.natAbs (1 : Int)))] true))] 6)) (fun K => by kernel_rfl) ?_
  refine ⟨hone, by simp [zc_len], ?_⟩
  refine awp_sx prog_ok hP hnt [] [.val (.d (rp (cp (comp f (X + C c))))), .val (.d (zl (cs (polL [c, 1])))), .val (.d (zl (cs (comp f (X + C c))))), .val (.d (.bool true)), .val (.d (rp (cp (strP f c)))), .val (.d (zl (cs (polL [0, c])))), .val (.d (zl (cs (strP f c)))), .val (.d (.bool true)), .val (.d (rp (cp (revP f N)))), .val (.d (zl (cs (revP f N)))), .val (.d (.bool true)), .val (.d (rp (cp (comp f g)))), .val (.d (zl (cs g))), .val (.d (zl (cs (comp f g)))), .val (.d (.bool true))] [some (ic cs1 cl), some (zc c), some (zc 1), some (ic cs1 cl), some (zc c)] [6] (by kernel_rfl) (G := fun K => ([D.bool cs1, du cl][0]? = some (D.bool cs1) ∧ [D.bool cs1, du cl][1]? = some (du cl)) ∧ Fn Try.prog 53 [V.d (rp a), V.agg [D.bool cs1, du cl]] [] (V.d (rp (cp (comp f (X + C c))))) [] ∧ ([D.int IntKind.i64 c.sign, ib (Abs.db 2 c.natAbs)][0]? = some (D.int IntKind.i64 c.sign) ∧ [D.int IntKind.i64 c.sign, ib (Abs.db 2 c.natAbs)][1]? = some (ib (Abs.db 2 c.natAbs))) ∧ ([D.int IntKind.i64 (Int.sign (1 : Int)), ib (Abs.db 2 (Int.natAbs (1 : Int)))][0]? = some (D.int IntKind.i64 (Int.sign (1 : Int))) ∧ [D.int IntKind.i64 (Int.sign (1 : Int)), ib (Abs.db 2 (Int.natAbs (1 : Int)))][1]? = some (ib (Abs.db 2 (Int.natAbs (1 : Int))))) ∧ Fn Try.prog 55 [V.d (D.lst 2 [D.int IntKind.i64 c.sign, ib (Abs.db 2 c.natAbs), D.int IntKind.i64 (Int.sign (1 : Int)), ib (Abs.db 2 (Int.natAbs (1 : Int)))])] [] (V.d (zl (cs (polL [c, (1 : Int)])))) [] ∧ Fn Try.prog 54 [V.d (zl (cs f)), V.d (zl (cs (polL [c, (1 : Int)])))] [] (V.d (zl (cs (comp f (X + C c))))) [] ∧ Fn Try.prog 43 [V.d (rp (cp (comp f (X + C c)))), V.d (zl (cs (comp f (X + C c))))] [] (V.d (D.bool true)) [] ∧ ([D.bool cs1, du cl][0]? = some (D.bool cs1) ∧ [D.bool cs1, du cl][1]? = some (du cl)) ∧ Fn Try.prog 56 [V.d (rp a), V.agg [D.bool cs1, du cl]] [] (V.d (rp (cp (strP f c)))) [] ∧ ([D.int IntKind.i64 c.sign, ib (Abs.db 2 c.natAbs)][0]? = some (D.int IntKind.i64 c.sign) ∧ [D.int IntKind.i64 c.sign, ib (Abs.db 2 c.natAbs)][1]? = some (ib (Abs.db 2 c.natAbs))) ∧ Fn Try.prog 55 [V.d (D.lst 2 [D.int IntKind.i64 (0 : Int), D.lst 0 [], D.int IntKind.i64 c.sign, ib (Abs.db 2 c.natAbs)])] [] (V.d (zl (cs (polL [(0 : Int), c])))) [] ∧ Fn Try.prog 54 [V.d (zl (cs f)), V.d (zl (cs (polL [(0 : Int), c])))] [] (V.d (zl (cs (strP f c)))) [] ∧ Fn Try.prog 43 [V.d (rp (cp (strP f c))), V.d (zl (cs (strP f c)))] [] (V.d (D.bool true)) [] ∧ Fn Try.prog 57 [V.d (rp a)] [] (V.d (rp (cp (revP f N)))) [] ∧ Fn Try.prog 55 [V.d (D.lst N (List.take (N * 2) (List.drop 0 (zcs (tb (revP f N).c N)))))] [] (V.d (zl (cs (revP f N)))) [] ∧ Fn Try.prog 43 [V.d (rp (cp (revP f N))), V.d (zl (cs (revP f N)))] [] (V.d (D.bool true)) [] ∧ Fn Try.prog 58 [V.d (rp a), V.d (rp b)] [] (V.d (rp (cp (comp f g)))) [] ∧ Fn Try.prog 40 [V.d (rp b)] [] (V.d (zl (cs g))) [] ∧ Fn Try.prog 54 [V.d (zl (cs f)), V.d (zl (cs g))] [] (V.d (zl (cs (comp f g)))) [] ∧ Fn Try.prog 43 [V.d (rp (cp (comp f g))), V.d (zl (cs (comp f g)))] [] (V.d (D.bool true)) [] ∧ K (St.mk [(6, V.d (D.bool true))] [(0, some (Blk.mk [D.bool cs1, du cl] true)), (1, some (Blk.mk [D.int IntKind.i64 c.sign, ib (Abs.db 2 c.natAbs)] true)), (2, some (Blk.mk (zcs (tb (revP f N).c N)) false)), (4, some (Blk.mk [D.int IntKind.i64 (Int.sign (1 : Int)), ib (Abs.db 2 (Int.natAbs (1 : Int)))] true))] 46)) (fun K => by kernel_rfl) ?_
  rw [show zl (tb (revP f N).c N) = D.lst N (zcs (tb (revP f N).c N)) from by simp [zl]] at z3
  rw [zl2, show ib (Abs.db 2 (Int.natAbs 0)) = D.lst 0 [] from by show ib (Abs.db 2 0) = _; rw [db_zero]; rfl, show Int.sign 0 = 0 from rfl] at z2
  have e3 : (zcs (tb (revP f N).c N)).length ≤ N * 2 := by simp
  rw [List.drop_zero, List.take_of_length_le e3]
  exact ⟨⟨rfl, rfl⟩, s1, ⟨rfl, rfl⟩, ⟨rfl, rfl⟩, z1, k1, i1, ⟨rfl, rfl⟩, t1, ⟨rfl, rfl⟩, z2, k2, i2, r1, z3, i3, c1, ob, k3, i4, awp_ret ⟨.inl rfl, retD rfl⟩⟩
end Go.Abs
