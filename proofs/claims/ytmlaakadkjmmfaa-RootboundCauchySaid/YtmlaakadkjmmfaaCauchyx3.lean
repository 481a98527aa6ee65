import Derived.WalkKit
import Derived.Orders
import Derived.Below
import Derived.Laws.AppendOwn
import Derived.Calls
import Derived.OpenShut
import Derived.ChangeArms
import Derived.ChangeShapes
import Derived.WideShapes
import Derived.KernelRfl
import Derived.JoinedOf
import Derived.Scope
import Derived.ProofKit
import Derived.ShutString
import Derived.ChangeOld
import Derived.SizedLaws
import Derived.Test.YtmlaakadkjmmfaaProg
import Derived.Test.YtmlaakadkjmmfaaCauchyx0
import Derived.Test.YtmlaakadkjmmfaaCauchyx1
import Derived.Test.YtmlaakadkjmmfaaCauchyx2
/- Texts that the proof of RootboundCauchy leans on: what is told of the functions it reaches. -/
set_option linter.unusedVariables false
set_option linter.unusedSimpArgs false
namespace Go.Abs
open Go Go.Proofs
set_option maxRecDepth 100000

theorem rc_drop0 {ps : List RI} {i : Nat} {p : RI} (h : ps[i]? = some p) : (rc ps).drop (((i : Nat) : Int).toNat * 2) = .bool p.1 :: du p.2 :: rc (ps.drop (i + 1)) := by rw [Int.toNat_natCast]; exact rc_at h

theorem rtrim_cp (ps : List RI) (k : Nat) : (rtrim ps)[k]? = if k < (pol ps).sz then ps[k]? else none := by
  unfold rtrim
  rw [List.getElem?_take, ← rtrim_len, rtrim_lenp]
theorem normP {i : Nat} {ps : List RI} (hi : i ≤ 12) (hp : W i ps) : Fn Try.prog 63 [.d (rp ps)] [] (.d (rp (cp (pol ps)))) [] := by
  refine fn0 (nt := 25) (res := [.tmp 2]) Try.func63 rfl (by decide) rfl rfl rfl rfl ?_
  intro Cx hP hnt hl
  have h2 := lim2 hi
  have h4 := lim4 hi
  have hln := hp.len
  obtain ⟨f, hf⟩ : ∃ f, f = pol ps := ⟨_, rfl⟩
  have hfs : f.sz ≤ ps.length := hf ▸ pol_sz ps
  have ht := utrim_fn ps (by omega) (pok_mono (by omega) hp.ok)
  have htl : (rtrim ps).length = f.sz := by rw [rtrim_lenp, hf]
  rw [← hf]
  refine awp_sx prog_ok hP hnt [] [] [] [0] (by kernel_rfl) (G := fun K => K (St.mk [(0, V.d (rp ps))] [] 1)) (fun K => by kernel_rfl) ?_
  refine awp_sx prog_ok hP hnt [(7, .int .i64 f.sz)] [.val (.d (rp (rtrim ps)))] [] [0, 3] (by kernel_rfl) (G := fun K => Fn Try.prog 161 [V.d (rp ps)] [] (V.d (rp (rtrim ps))) [] ∧ (↑(rtrim ps).length : Int) = (↑f.sz : Int) ∧ ((↑f.sz : Int) = (↑f.sz : Int) ∧ (0 : Int) ≤ (↑f.sz : Int) ∧ (↑f.sz : Int) * (↑32 : Int) ≤ (2 : Int) ^ 47) ∧ K (St.mk [(0, V.d (rp ps)), (3, V.own 4 0 (↑f.sz : Int).toNat 2)] [(4, some (Blk.mk (zeros (↑f.sz : Int).toNat (TI.mk (Kind.struct [(0, 1), (1, 1)]) 2 32 [D.bool false, D.lst 0 []]).zero) true))] 6)) (fun K => by kernel_rfl) ?_
  refine ⟨ht, by rw [htl], by omega, ?_⟩
  refine awp_cut (ι := Unit) (fun _ => ⟨[(3, .own 0 0 f.sz 2)], [(0, some ⟨rc (mz f.c f.sz), true⟩)], 1⟩) (fun _ => True) ?_ ?_
  · refine awp_sx prog_ok hP hnt [] [] [] [0, 3, 10, 11] (by kernel_rfl) (G := fun K => K (St.mk [(0, V.d (rp ps)), (3, V.own 4 0 (↑f.sz : Int).toNat 2), (10, V.d (D.int IntKind.i64 (↑(↑f.sz : Int).toNat : Int))), (11, V.d (D.int IntKind.i64 (0 : Int)))] [(4, some (Blk.mk (zeros (↑f.sz : Int).toNat (TI.mk (Kind.struct [(0, 1), (1, 1)]) 2 32 [D.bool false, D.lst 0 []]).zero) true))] 9)) (fun K => by kernel_rfl) ?_
    refine awp_block ?_
    refine awp_loop (ι := Nat) (fun i => ⟨[(0, .d (rp ps)), (3, .own 0 0 f.sz 2), (10, .d (.int .i64 f.sz)), (11, .d (.int .i64 i))], [(0, some ⟨rc (mz (part f.c i) f.sz), true⟩)], 1⟩)
      (fun i => i ≤ f.sz) (fun i => f.sz - i) 0 [(0, 4)] (by simp) ?_ ?_
    · rw [Int.toNat_natCast]
      (constructor <;> simp [hl, envOk, memOk, conv, St.get, St.blk, zeros_rc, part_zero])
    intro i hi
    refine awp_sx prog_ok hP hnt [] [] [] [0, 3, 10, 11, 12] (by kernel_rfl) (G := fun K => K (St.mk [(0, V.d (rp ps)), (3, V.own 0 0 f.sz 2), (10, V.d (D.int IntKind.i64 (↑f.sz : Int))), (11, V.d (D.int IntKind.i64 (↑i : Int))), (12, V.d (D.bool (decide ((↑i : Int) < (↑f.sz : Int)))))] [(0, some (Blk.mk (rc (mz (part f.c i) f.sz)) true))] 2)) (fun K => by kernel_rfl) ?_
    refine awp_seq_k fun K1 hK1 => ?_
    refine awp_cond rfl (fun e => awp_skip (hK1 _ ?_)) (fun e => awp_exit ⟨(), [(0, 0)], trivial, ?_⟩)
    · simp at e
      obtain ⟨p, hp1⟩ := get_ex (l := ps) (i := i) (by omega)
      have hpo := hp.ok p (List.mem_of_getElem? hp1)
      have hfx : ival p.1 p.2 = f.c i := by rw [hf, pol_c, co_some hp1]; rfl
      have h3 := inorm_fn p.1 p.2 (by have := hpo.2; omega) hpo.1
      rw [hfx] at h3
      refine awp_seq_k fun K2 hK2 => ?_
      refine awp_block ?_
      refine awp_sx prog_ok hP hnt [] [] [] [0, 3, 4, 10, 11] (by kernel_rfl) (G := fun K => K (St.mk [(0, V.d (rp ps)), (3, V.own 0 0 f.sz 2), (10, V.d (D.int IntKind.i64 (↑f.sz : Int))), (11, V.d (D.int IntKind.i64 (↑i : Int))), (4, V.d (D.int IntKind.i64 (↑i : Int)))] [(0, some (Blk.mk (rc (mz (part f.c i) f.sz)) true))] 4)) (fun K => by kernel_rfl) ?_
      refine awp_x prog_ok hP hnt [] [.val (.agg (iz (f.c i)))] [some [.bool p.1, du p.2]] [0, 3, 10, 11] (by kernel_rfl) (G := fun K => ((0 : Int) ≤ (↑i : Int) ∧ (↑i : Int) < (↑ps.length : Int) ∧ ((↑i : Int).toNat + 1) * 2 ≤ (rc ps).length) ∧ ((List.drop ((↑i : Int).toNat * 2) (rc ps))[0]? = some (D.bool p.fst) ∧ (List.drop ((↑i : Int).toNat * 2) (rc ps))[1]? = some (du p.snd)) ∧ Fn Try.prog 165 [V.agg [D.bool p.fst, du p.snd]] [] (V.agg [D.bool (decide (f.c i < (0 : Int))), du (dig (f.c i).natAbs)]) [] ∧ ((0 : Int) ≤ (↑i : Int) ∧ (↑i : Int) < (↑f.sz : Int)) ∧ 0 + (↑i : Int).toNat * 2 + (iz (f.c i)).length ≤ (rc (mz (part f.c i) f.sz)).length ∧ K (St.mk [(0, V.d (rp ps)), (3, V.own 0 0 f.sz 2), (10, V.d (D.int IntKind.i64 (↑f.sz : Int))), (11, V.d (D.int IntKind.i64 (↑i : Int)))] [(0, some (Blk.mk (setCells (rc (mz (part f.c i) f.sz)) (0 + (↑i : Int).toNat * 2) (iz (f.c i))) true))] 13)) (fun K => by kernel_rfl) ?_
      have hsc := setCells_rc (mz (part f.c i) f.sz) i (riz (f.c i))
      rw [part_set, ic_riz] at hsc
      refine ⟨⟨by omega, by omega, by simp; omega⟩, by rw [rc_drop0 hp1]; exact ⟨rfl, rfl⟩, h3, ⟨by omega, by omega⟩, ?_, hK2 _ ?_⟩
      · rw [rc_len, mz_len, Int.toNat_natCast, Nat.zero_add]; show i * 2 + 2 ≤ f.sz * 2; omega
      refine awp_x prog_ok hP hnt [(22, .int .i64 (i + 1 : Nat))] [] [] [0, 3, 10, 11] (by kernel_rfl) (G := fun K => IntKind.i64.wrap ((↑i : Int) + (1 : Int)) = (↑(i + 1) : Int) ∧ K (St.mk [(0, V.d (rp ps)), (3, V.own 0 0 f.sz 2), (10, V.d (D.int IntKind.i64 (↑f.sz : Int))), (11, V.d (D.int IntKind.i64 (↑(i + 1) : Int)))] [(0, some (Blk.mk (setCells (rc (mz (part f.c i) f.sz)) (0 + (↑i : Int).toNat * 2) (iz (f.c i))) true))] 15)) (fun K => by kernel_rfl) ?_
      refine ⟨by rw [w64] <;> omega, i + 1, [(0, 0)], ⟨by omega, by omega⟩, ?_⟩
      rw [Int.toNat_natCast, Nat.zero_add, hsc]
      (constructor <;> simp [hl, envOk, memOk, conv, St.get, St.blk])
    · simp at e
      have : i = f.sz := by omega
      subst this
      (constructor <;> simp [hl, envOk, memOk, conv, St.get, St.blk, part_all])
  intro _ _
  have hlv : Lv _ f := hf ▸ hp.lv
  have ht2 := utrim_fn (mz f.c f.sz) (by simp; omega) (pok_mono (by omega) (mz_ok hlv.ok))
  rw [rtrim_mz, can_eq (f := f) (fun _ => rfl) (Nat.le_refl _)] at ht2
  refine awp_sx prog_ok hP hnt [] [.val (.d (rp (cp f)))] [] [2] (by kernel_rfl) (G := fun K => Fn Try.prog 161 [V.d (D.lst f.sz (List.take (f.sz * 2) (List.drop 0 (rc (mz f.c f.sz)))))] [] (V.d (rp (cp f))) [] ∧ K (St.mk [(2, V.d (rp (cp f)))] [(0, some (Blk.mk (rc (mz f.c f.sz)) false))] 4)) (fun K => by kernel_rfl) ?_
  refine ⟨?_, awp_ret ⟨.inl rfl, retD rfl⟩⟩
  rw [own_rp (by simp)]
  exact ht2
end Go.Abs

set_option linter.unusedVariables false
set_option linter.unusedSimpArgs false
namespace Go.Abs
open Go Go.Proofs
set_option maxRecDepth 100000

namespace Poly
noncomputable def ppow (f : Poly) : Nat → Poly
  | 0 => 1
  | n + 1 => ppow f n * f
@[simp] theorem ev_ppow (f : Poly) (x : Int) : ∀ n, (ppow f n).ev x = f.ev x ^ n
  | 0 => by simp [ppow]
  | n + 1 => by simp [ppow, ev_ppow f x n, Int.pow_succ]
end Poly
end Go.Abs

set_option linter.unusedVariables false
set_option linter.unusedSimpArgs false
namespace Go.Abs
open Go
variable {P : Program}

theorem RepV.own_ren {H : Array Obj} {ok : Nat → Prop} {β β' : Nat → Option Nat} {b b' o n sz : Nat} {v : Value} (e : β b = β' b') (h : RepV H ok β (.own b o n sz) v) : RepV H ok β' (.own b' o n sz) v := by
  simp only [RepV] at h ⊢
  obtain ⟨A, c, h1, h2, h3⟩ := h
  refine ⟨A, c, h1, h2, ?_⟩
  rcases h3 with h3 | ⟨B, arr, T, g1, g2, g3, g4⟩
  · exact .inl h3
  · exact .inr ⟨B, arr, T, g1, by rw [← e]; exact g2, g3, g4⟩

/-- a made block by another number -/
theorem Fn.out_ren {f : Nat} {args : List V} {o n sz : Nat} {k : Blk} (h : Fn P f args [] (.own 0 o n sz) [(0, k)]) (b : Nat) : Fn P f args [] (.own b o n sz) [(b, k)] := by
  refine ⟨h.1, fun w ok β vs hok hs hr hl hi => ?_⟩
  refine (h.2 w ok β vs hok hs hr (by simp) (by simp)).mono ?_
  rintro e w' ⟨v, ok', β', rfl, hc⟩
  refine ⟨v, ok', fun x => if x = b then β' 0 else none, rfl, hc.os, hc.tape, hc.output, hc.size, hc.keep, hc.shape, hc.lo, hc.hi, hc.lt, RepV.own_ren (by simp) hc.res, by simp, fun x kx hx => ?_, fun x y kx ky B hx hy _ _ => ?_⟩
  · simp at hx
    obtain ⟨rfl, rfl⟩ := hx
    simpa using hc.made 0 kx (by simp)
  · simp at hx hy
    rw [hx.1, hy.1]
/-- a lent block by another number -/
theorem Fn.lend_ren {f : Nat} {o n o' n' sz : Nat} {k k' : Blk} (h : Fn P f [.own 0 o n sz] [(0, k)] (.own 0 o' n' sz) [(0, k')]) (b : Nat) : Fn P f [.own b o n sz] [(b, k)] (.own b o' n' sz) [(b, k')] := by
  refine ⟨h.1, fun w ok β vs hok hs hr hl hi => ?_⟩
  have hr' : RepVs w.heap ok (fun x => if x = 0 then β b else none) [.own 0 o n sz] vs 0 := by
    simp only [RepVs] at hr ⊢
    obtain ⟨⟨u, h1, h2⟩, h3⟩ := hr
    exact ⟨⟨u, h1, RepV.own_ren (by simp) h2⟩, h3⟩
  refine (h.2 w ok (fun x => if x = 0 then β b else none) vs hok hs hr' (fun x kx hx => ?_) (fun x y kx ky B hx hy _ _ => ?_)).mono ?_
  · simp at hx
    obtain ⟨rfl, rfl⟩ := hx
    simpa using hl _ kx (by simp)
  · simp at hx hy
    rw [hx.1, hy.1]
  rintro e w' ⟨v, ok', β', rfl, hc⟩
  refine ⟨v, ok', fun x => if x = b then β' 0 else none, rfl, hc.os, hc.tape, hc.output, hc.size, fun j hj hn => hc.keep j hj fun x kx hx => ?_, hc.shape, hc.lo, fun j hj => ?_, hc.lt, RepV.own_ren (by simp) hc.res, fun x kx hx => ?_, fun x kx hx => ?_, fun x y kx ky B hx hy _ _ => ?_⟩
  · simp at hx
    obtain ⟨rfl, rfl⟩ := hx
    simpa using hn _ kx (by simp)
  · rcases hc.hi j hj with h1 | ⟨x, kx, hx, h1⟩ | h1
    · exact .inl h1
    · simp at hx
      obtain ⟨rfl, rfl⟩ := hx
      exact .inr (.inl ⟨b, kx, by simp, by simpa using h1⟩)
    · exact .inr (.inr h1)
  · simp at hx
    obtain ⟨rfl, rfl⟩ := hx
    simpa using hc.same 0 kx (by simp)
  · simp at hx
    obtain ⟨rfl, rfl⟩ := hx
    rcases hc.made 0 kx (by simp) with h1 | ⟨B, h1, h2, h3⟩
    · exact .inl (by simpa using h1)
    · refine .inr ⟨B, by simpa using h1, h2, ?_⟩
      rcases h3 with ⟨x, kx, hx, h3⟩ | h3
      · simp at hx
        obtain ⟨rfl, rfl⟩ := hx
        exact .inl ⟨_, _, List.mem_singleton.2 rfl, by simpa using h3⟩
      · exact .inr h3
  · simp at hx hy
    rw [hx.1, hy.1]
end Go.Abs

set_option linter.unusedVariables false
set_option linter.unusedSimpArgs false
namespace Go.Abs
open Go Go.Proofs
set_option maxRecDepth 100000

theorem fn0o {f : Nat} {fn : Func} {c : Code} {args : List V} {r : V} {out : List (Nat × Blk)} {res : List ResultVar} {nt : Nat}
    (hf : Try.prog.funcs[f]? = some fn) (hb : fn.body = some c) (hn : (fn.name == "runtime.NumGoroutine") = false) (hnt : fn.ntmps = nt) (hle : Nat.ble args.length nt = true) (hres : fn.results = res.toArray) (hrefs : V.refsL args = [])
    (h : ∀ C : Ctx, C.P = Try.prog → C.nt = nt → C.lids = [] → AWP C c ⟨envOf 0 args, [], 0⟩ (fun e s' => (e = .ret ∨ e = .normal) ∧ RetOk tab res r out s')) : Fn Try.prog f args [] r out :=
  fn_intro prog_ok hf hb hn (by rw [hnt]; exact Nat.le_of_ble_eq_true hle) hres (by simp) (by rw [hrefs]; simp) (fun C h1 h2 h3 => h C h1 (by rw [h2, hnt]) h3)

theorem iabs_fn (s : Bool) (l : List Nat) (h : l.length ≤ 2 ^ 40) (hd : Dg l) : Fn Try.prog 168 [.agg (ic s l)] [] (.agg (iz (ival s l).natAbs)) [] := by
  refine fn0 (nt := 6) (res := [.cell 2 46]) Try.func168 rfl (by decide) rfl rfl rfl rfl ?_
  intro Cx hP hnt hl
  have h1 := from_fn false l h hd
  rw [show ival false l = ((ival s l).natAbs : Int) by unfold ival; rw [sgn_abs]; rfl] at h1
  refine awp_sx prog_ok hP hnt [] [] [] [1, 2] (by kernel_rfl) (G := fun K => K (St.mk [(1, V.ptr 0 0), (2, V.ptr 1 0)] [(0, some (Blk.mk [D.bool s, du l] true)), (1, some (Blk.mk [D.bool false, D.lst 0 []] true))] 2)) (fun K => by kernel_rfl) ?_
  refine awp_sx prog_ok hP hnt [] [.val (.agg (iz (ival s l).natAbs))] [] [2] (by kernel_rfl) (G := fun K => Fn Try.prog 182 [V.d (D.bool false), V.d (du l)] [] (V.agg [D.bool (decide ((↑(ival s l).natAbs : Int) < (0 : Int))), du (dig (↑(ival s l).natAbs : Int).natAbs)]) [] ∧ 0 + (iz (↑(ival s l).natAbs : Int)).length ≤ [D.bool false, D.lst 0 []].length ∧ K (St.mk [(2, V.ptr 1 0)] [(0, some (Blk.mk [D.bool s, du l] true)), (1, some (Blk.mk [D.bool (decide ((↑(ival s l).natAbs : Int) < (0 : Int))), du (dig (↑(ival s l).natAbs : Int).natAbs)] true))] 6)) (fun K => by kernel_rfl) ?_
  exact ⟨h1, by simp [iz], awp_ret ⟨.inl rfl, retC (l := true) rfl rfl rfl rfl⟩⟩

theorem trimW {i : Nat} {ps : List RI} (hi : i ≤ 12) (hp : W i ps) : Fn Try.prog 161 [.d (rp ps)] [] (.d (rp (rtrim ps))) [] :=
  utrim_fn ps (by have := hp.len; have := lim2 hi; omega) (pok_mono (by have := lim4 hi; omega) hp.ok)
theorem degP {i : Nat} {ps : List RI} (hi : i ≤ 12) (hp : W i ps) : Fn Try.prog 68 [.d (rp ps)] [] (.d (.int .i64 ((pol ps).sz - 1))) [] := by
  refine fn0 (nt := 7) (res := [.tmp 2]) Try.func68 rfl (by decide) rfl rfl rfl rfl ?_
  intro Cx hP hnt hl
  have h1 := trimW hi hp
  have h2 := rtrim_lenp ps
  have h3 := pol_sz ps
  have h4 := hp.len
  have h5 := lim2 hi
  refine awp_sx prog_ok hP hnt [] [] [] [0] (by kernel_rfl) (G := fun K => K (St.mk [(0, V.d (rp ps))] [] 1)) (fun K => by kernel_rfl) ?_
  refine awp_sx prog_ok hP hnt [(6, .int .i64 ((pol ps).sz - 1))] [.val (.d (rp (rtrim ps)))] [] [2] (by kernel_rfl) (G := fun K => Fn Try.prog 161 [V.d (rp ps)] [] (V.d (rp (rtrim ps))) [] ∧ IntKind.i64.wrap ((↑(rtrim ps).length : Int) - (1 : Int)) = (↑(pol ps).sz : Int) - (1 : Int) ∧ K (St.mk [(2, V.d (D.int IntKind.i64 ((↑(pol ps).sz : Int) - (1 : Int))))] [] 6)) (fun K => by kernel_rfl) ?_
  exact ⟨h1, by rw [h2, w64] <;> omega, awp_ret ⟨.inl rfl, retD rfl⟩⟩
theorem iz_zero : iz 0 = [D.bool false, D.lst 0 []] := by simp [iz, dig_zero, du, u32s]
theorem leadP {i : Nat} {ps : List RI} (hi : i ≤ 12) (hp : W i ps) : Fn Try.prog 62 [.d (rp ps)] [] (.agg (iz (pol ps).lc)) [] := by
  refine fn0 (nt := 16) (res := [.cell 2 46]) Try.func62 rfl (by decide) rfl rfl rfl rfl ?_
  intro Cx hP hnt hl
  have h1 := trimW hi hp
  have h2 := rtrim_lenp ps
  have h3 := pol_sz ps
  have h4 := hp.len
  have h5 := lim2 hi
  have h6 := lim4 hi
  refine awp_sx prog_ok hP hnt [] [] [] [0, 2] (by kernel_rfl) (G := fun K => K (St.mk [(0, V.d (rp ps)), (2, V.ptr 0 0)] [(0, some (Blk.mk [D.bool false, D.lst 0 []] true))] 1)) (fun K => by kernel_rfl) ?_
  refine awp_sx prog_ok hP hnt [] [.val (.d (rp (rtrim ps)))] [] [0, 2] (by kernel_rfl) (G := fun K => Fn Try.prog 161 [V.d (rp ps)] [] (V.d (rp (rtrim ps))) [] ∧ K (St.mk [(0, V.d (rp (rtrim ps))), (2, V.ptr 0 0)] [(0, some (Blk.mk [D.bool false, D.lst 0 []] true))] 4)) (fun K => by kernel_rfl) ?_
  refine ⟨h1, ?_⟩
  refine awp_seq_k fun K hK => ?_
  refine awp_sx prog_ok hP hnt [] [] [] [0, 2, 7] (by kernel_rfl) (G := fun K => K (St.mk [(0, V.d (rp (rtrim ps))), (2, V.ptr 0 0), (7, V.d (D.bool ((↑(rtrim ps).length : Int) == (0 : Int))))] [(0, some (Blk.mk [D.bool false, D.lst 0 []] true))] 7)) (fun K => by kernel_rfl) ?_
  refine awp_cond rfl (fun e => ?_) (fun e => awp_skip (hK _ ?_))
  · simp [h2] at e
    have : pol ps = 0 := Poly.eq_zero.2 e
    rw [this, Poly.lc_zero, iz_zero]
    refine awp_sx prog_ok hP hnt [] [] [] [2] (by kernel_rfl) (G := fun K => 2 ≤ [D.bool false, D.lst 0 []].length ∧ K (St.mk [(2, V.ptr 0 0)] [(0, some (Blk.mk [D.bool false, D.lst 0 []] true))] 9)) (fun K => by kernel_rfl) ?_
    exact ⟨by simp, awp_ret ⟨.inl rfl, retC (l := true) rfl rfl rfl rfl⟩⟩
  · simp [h2] at e
    obtain ⟨p, hp1⟩ := get_ex (l := ps) (i := (pol ps).sz - 1) (by omega)
    have hp2 : (rtrim ps)[(pol ps).sz - 1]? = some p := by rw [rtrim_cp, if_pos (by omega), hp1]
    have hpo := hp.ok p (List.mem_of_getElem? hp1)
    have hlc : ival p.1 p.2 = (pol ps).lc := by rw [Poly.lc, pol_c, co_some hp1]; rfl
    have h7 := inorm_fn p.1 p.2 (by have := hpo.2; omega) hpo.1
    rw [hlc] at h7
    refine awp_sx prog_ok hP hnt [(12, .int .i64 ((pol ps).sz - 1 : Nat))] [.val (.agg (iz (pol ps).lc))] [some [.bool p.1, du p.2]] [2] (by kernel_rfl) (G := fun K => IntKind.i64.wrap ((↑(rtrim ps).length : Int) - (1 : Int)) = (↑((pol ps).sz - 1) : Int) ∧ ((0 : Int) ≤ (↑((pol ps).sz - 1) : Int) ∧ (↑((pol ps).sz - 1) : Int) < (↑(rtrim ps).length : Int) ∧ ((↑((pol ps).sz - 1) : Int).toNat + 1) * 2 ≤ (rc (rtrim ps)).length) ∧ ((List.drop ((↑((pol ps).sz - 1) : Int).toNat * 2) (rc (rtrim ps)))[0]? = some (D.bool p.fst) ∧ (List.drop ((↑((pol ps).sz - 1) : Int).toNat * 2) (rc (rtrim ps)))[1]? = some (du p.snd)) ∧ Fn Try.prog 165 [V.agg [D.bool p.fst, du p.snd]] [] (V.agg [D.bool (decide ((pol ps).lc < (0 : Int))), du (dig (pol ps).lc.natAbs)]) [] ∧ 0 + (iz (pol ps).lc).length ≤ [D.bool false, D.lst 0 []].length ∧ K (St.mk [(2, V.ptr 0 0)] [(0, some (Blk.mk [D.bool (decide ((pol ps).lc < (0 : Int))), du (dig (pol ps).lc.natAbs)] true))] 15)) (fun K => by kernel_rfl) ?_
    exact ⟨by rw [h2, w64] <;> omega, ⟨by omega, by rw [h2]; omega, by rw [rc_len, h2]; omega⟩, by rw [rc_drop0 hp2]; exact ⟨rfl, rfl⟩, h7, by simp [iz], awp_ret ⟨.inl rfl, retC (l := true) rfl rfl rfl rfl⟩⟩

end Go.Abs

set_option linter.unusedVariables false
set_option linter.unusedSimpArgs false
namespace Go.Abs
open Go Go.Proofs
set_option maxRecDepth 100000

end Go.Abs

set_option linter.unusedVariables false
set_option linter.unusedSimpArgs false
namespace Go.Abs
open Go Go.Proofs
set_option maxRecDepth 100000

theorem pow32 {K E : Nat} (h : K ≤ 32 * E) : 2 ^ K ≤ 4294967296 ^ E := by
  rw [show (4294967296 : Nat) = 2 ^ 32 by rfl, ← Nat.pow_mul]
  exact Nat.pow_le_pow_right (by omega) h
/-- the greatest absolute value -/
def mxa (F : Nat → Int) : Nat → Nat
  | 0 => 0
  | n + 1 => max (mxa F n) (F n).natAbs
/-- the height -/
noncomputable def hgt (f : Poly) : Nat := mxa f.c f.sz

end Go.Abs

set_option linter.unusedVariables false
set_option linter.unusedSimpArgs false
namespace Go.Abs
open Go Go.Proofs Poly

/-- at most n coefficients of at most K bits -/
structure Bd (n K : Nat) (f : Poly) : Prop where
  len : f.sz ≤ n
  ok : ∀ k, (f.c k).natAbs < 2 ^ K
theorem pw {a b : Nat} (h : a ≤ b) : 2 ^ a ≤ 2 ^ b := Nat.pow_le_pow_right (by omega) h
theorem Bd.mono {n m K L : Nat} {f : Poly} (h : Bd n K f) (hn : n ≤ m) (hK : K ≤ L) : Bd m L f := ⟨Nat.le_trans h.len hn, fun k => Nat.lt_of_lt_of_le (h.ok k) (pw hK)⟩
theorem Bd.lv {n K i : Nat} {f : Poly} (h : Bd n K f) (hn : n ≤ 100 * 2 ^ i) (hK : K ≤ 1280 * 4 ^ i) : Lv i f := ⟨Nat.le_trans h.len hn, fun k => by
  rw [show (4294967296 : Nat) = 2 ^ 32 by rfl, ← Nat.pow_mul, show 32 * (40 * 4 ^ i) = 1280 * 4 ^ i by omega]
  exact Nat.lt_of_lt_of_le (h.ok k) (pw hK)⟩
theorem Bd.add {n m K L : Nat} {f g : Poly} (hf : Bd n K f) (hg : Bd m L g) : Bd (max n m) (max K L + 1) (f + g) := by
  refine ⟨Nat.le_trans (sz_add _ _) (by have := hf.len; have := hg.len; omega), fun k => ?_⟩
  have h1 := (hf.mono (Nat.le_refl _) (Nat.le_max_left K L)).ok k
  have h2 := (hg.mono (Nat.le_refl _) (Nat.le_max_right K L)).ok k
  rw [add_c, Nat.pow_succ]
  have := Int.natAbs_add_le (f.c k) (g.c k)
  omega
theorem Bd.sub {n m K L : Nat} {f g : Poly} (hf : Bd n K f) (hg : Bd m L g) : Bd (max n m) (max K L + 1) (f - g) := by
  refine ⟨Nat.le_trans (sz_sub _ _) (by have := hf.len; have := hg.len; omega), fun k => ?_⟩
  have h1 := (hf.mono (Nat.le_refl _) (Nat.le_max_left K L)).ok k
  have h2 := (hg.mono (Nat.le_refl _) (Nat.le_max_right K L)).ok k
  rw [sub_c, Nat.pow_succ]
  have := Int.natAbs_sub_le (f.c k) (g.c k)
  omega
theorem cv_bound {c d : Nat → Int} {A B : Nat} (hc : ∀ k, (c k).natAbs ≤ A) (hd : ∀ k, (d k).natAbs ≤ B) {n : Nat} (hz : ∀ k, n ≤ k → c k = 0) (k : Nat) : (cv c d k).natAbs ≤ n * (A * B) := by
  induction k generalizing c n with
  | zero =>
    rw [cv, Int.natAbs_mul]
    cases n with
    | zero => rw [hz 0 (by omega)]; simp
    | succ n =>
      have := Nat.mul_le_mul (hc 0) (hd 0)
      rw [Nat.succ_mul]; omega
  | succ k ih =>
    rw [cv]
    cases n with
    | zero => rw [hz 0 (by omega), cvz (fun a => hz _ (by omega))]; simp
    | succ n =>
      have h1 := ih (c := fun i => c (i + 1)) (n := n) (fun j => hc _) (fun j hj => hz _ (by omega))
      have h2 : (c 0 * d (k + 1)).natAbs ≤ A * B := by rw [Int.natAbs_mul]; exact Nat.mul_le_mul (hc 0) (hd _)
      have := Int.natAbs_add_le (c 0 * d (k + 1)) (cv (fun i => c (i + 1)) d k)
      rw [Nat.succ_mul]; omega
theorem Bd.mul {n m K L s : Nat} {f g : Poly} (hf : Bd n K f) (hg : Bd m L g) (hs : n < 2 ^ s) : Bd (n + m) (K + L + s) (f * g) := by
  refine ⟨Nat.le_trans (szmul_le _ _) (Nat.add_le_add hf.len hg.len), fun k => ?_⟩
  rw [mul_c]
  have h1 := cv_bound (fun k => Nat.le_of_lt (hf.ok k)) (fun k => Nat.le_of_lt (hg.ok k)) (n := f.sz) (fun k hk => above hk) k
  have h2 : f.sz * (2 ^ K * 2 ^ L) ≤ n * (2 ^ K * 2 ^ L) := Nat.mul_le_mul_right _ hf.len
  have h3 : n * (2 ^ K * 2 ^ L) < 2 ^ s * (2 ^ K * 2 ^ L) := Nat.mul_lt_mul_of_pos_right hs (Nat.mul_pos (Nat.pow_pos (by omega)) (Nat.pow_pos (by omega)))
  rw [Nat.pow_add, Nat.pow_add, Nat.mul_comm (2 ^ K * 2 ^ L)]
  omega
theorem Bd.zero {n K : Nat} : Bd n K 0 := ⟨by rw [sz_zero]; omega, fun k => by rw [zero_c]; exact Nat.pow_pos (by omega)⟩
theorem Bd.one {n K : Nat} (hn : 1 ≤ n) (hK : 1 ≤ K) : Bd n K 1 := ⟨by rw [show (1 : Poly) = C 1 from rfl, sz_C (by decide)]; exact hn, fun k => by
  show (if k = 0 then (1 : Int) else 0).natAbs < _
  have := pw hK
  split
  · simp at this ⊢; omega
  · exact Nat.pow_pos (by omega)⟩

theorem ev_polL_nil (x : Int) : (polL []).ev x = 0 := by rw [polL_nil]; simp
theorem ev_polL_cons (a : Int) (l : List Int) (x : Int) : (polL (a :: l)).ev x = a + x * (polL l).ev x := by
  rw [ev_eq (f := polL (a :: l)) (n := l.length + 1) (fun k hk => by rw [polL_c, List.getD_eq_getElem?_getD, List.getElem?_eq_none (by simpa using hk)]; rfl),
    ev_eq (f := polL l) (n := l.length) (fun k hk => by rw [polL_c, List.getD_eq_getElem?_getD, List.getElem?_eq_none hk]; rfl), evn]
  rfl
theorem ev_cs (f : Poly) (x : Int) : (polL (cs f)).ev x = f.ev x := by rw [polL_cs]
/-- the composition -/
noncomputable def compL (g : Poly) : List Int → Poly
  | [] => 0
  | a :: l => C a + g * compL g l
noncomputable def comp (f g : Poly) : Poly := compL g (cs f)
@[simp] theorem ev_compL (g : Poly) (x : Int) : ∀ l, (compL g l).ev x = (polL l).ev (g.ev x)
  | [] => by rw [ev_polL_nil]; simp [compL]
  | a :: l => by rw [ev_polL_cons]; simp [compL, ev_compL g x l]
@[simp] theorem ev_comp (f g : Poly) (x : Int) : (comp f g).ev x = f.ev (g.ev x) := by rw [comp, ev_compL, ev_cs]
/-- scaled argument -/
def strP (f : Poly) (c : Int) : Poly := ⟨fun k => f.c k * c ^ k, f.sz, fun k hk => by rw [above hk]; simp⟩
theorem strP_c (f : Poly) (c : Int) (k : Nat) : (strP f c).c k = f.c k * c ^ k := rfl
theorem evn_str {x c : Int} : ∀ (n : Nat) (F : Nat → Int) (d : Int), evn (fun k => F k * (d * c ^ k)) n x = d * evn F n (c * x)
  | 0, F, d => by simp [evn]
  | n + 1, F, d => by
    have h := evn_str (x := x) (c := c) n (fun k => F (k + 1)) (d * c)
    rw [evn, evn]
    have e : (fun k => F (k + 1) * (d * c ^ (k + 1))) = fun k => F (k + 1) * (d * c * c ^ k) := funext fun k => by rw [Int.pow_succ]; grind
    rw [e, h]; simp; grind
@[simp] theorem ev_strP (f : Poly) (c x : Int) : (strP f c).ev x = f.ev (c * x) := by
  rw [ev_eq (f := strP f c) (n := f.sz) (fun k hk => by rw [strP_c, above hk]; simp), ev_eq (f := f) (n := f.sz) (fun k hk => above hk)]
  have := evn_str (x := x) (c := c) f.sz f.c 1
  rw [Int.one_mul] at this
  rw [← this]
  congr 1
  exact funext fun k => by rw [strP_c, Int.one_mul]
/-- reversed coefficients -/
def revP (f : Poly) (n : Nat) : Poly := ⟨fun k => if k < n then f.c (n - 1 - k) else 0, n, fun k hk => by rw [if_neg (by omega)]⟩
theorem revP_c (f : Poly) (n k : Nat) : (revP f n).c k = if k < n then f.c (n - 1 - k) else 0 := rfl
/-- canonical coefficients of a list -/
def ro (l : List Int) : List RI := l.map riz
@[simp] theorem ro_len (l : List Int) : (ro l).length = l.length := by simp [ro]
theorem getD_some {l : List Int} {i : Nat} (h : i < l.length) : l[i]? = some (l.getD i 0) := by simp [h]
theorem Bz.set {K : Nat} {l : List Int} (h : Bz K l) {i : Nat} {x : Int} (hx : x.natAbs < 2 ^ K) : Bz K (l.set i x) := fun z hz => by
  rcases List.mem_or_eq_of_mem_set hz with h1 | h1
  · exact h z h1
  · rw [h1]; exact hx
theorem Bz.mono {K L : Nat} {l : List Int} (h : Bz K l) (hK : K ≤ L) : Bz L l := fun z hz => Nat.lt_of_lt_of_le (h z hz) (pw hK)
theorem riz_bits {z : Int} {K : Nat} (h : z.natAbs < 2 ^ K) (hK : K ≤ 2 ^ 40) : Dg (riz z).2 ∧ (riz z).2.length ≤ 2 ^ 36 :=
  ⟨dig_lt _, Nat.le_trans (dig_len (Nat.lt_of_lt_of_le h (pow32 (E := K / 32 + 1) (by omega)))) (by omega)⟩
end Go.Abs

set_option linter.unusedVariables false
set_option linter.unusedSimpArgs false
namespace Go.Abs
open Go Go.Proofs Poly
set_option maxRecDepth 100000

theorem addI {x y : Int} {K L : Nat} (hx : x.natAbs < 2 ^ K) (hy : y.natAbs < 2 ^ L) (hK : K ≤ 2 ^ 40) (hL : L ≤ 2 ^ 40) : Fn Try.prog 96 [.agg (ic (riz x).1 (riz x).2), .agg (ic (riz y).1 (riz y).2)] [] (.agg (iz (x + y))) [] := by
  have h1 := riz_bits hx hK
  have h2 := riz_bits hy hL
  have := iadd_fn (riz x).1 (riz y).1 (riz x).2 (riz y).2 (by omega) (by omega) h1.1 h2.1
  rwa [show ival (riz x).1 (riz x).2 = x from rval_riz _, show ival (riz y).1 (riz y).2 = y from rval_riz _] at this
end Go.Abs

set_option linter.unusedVariables false
set_option linter.unusedSimpArgs false
namespace Go.Abs
open Go Go.Proofs Poly
set_option maxRecDepth 100000

theorem reverseP {i : Nat} {ps : List RI} (hi : i ≤ 12) (hp : W i ps) : Fn Try.prog 57 [.d (rp ps)] [] (.d (rp (cp (revP (pol ps) (pol ps).sz)))) [] ∧ Lv i (revP (pol ps) (pol ps).sz) := by
  have h2 := lim2 hi
  have h4 := lim4 hi
  have hln := hp.len
  obtain ⟨f, hf⟩ : ∃ f, f = pol ps := ⟨_, rfl⟩
  rw [← hf]
  have hlv : Lv i f := hf ▸ hp.lv
  obtain ⟨N, hN⟩ : ∃ N, N = f.sz := ⟨_, rfl⟩
  rw [← hN]
  have hfs : N ≤ ps.length := by rw [hN, hf]; exact pol_sz ps
  have hrs : (revP f N).sz ≤ N := sz_le fun k hk => by rw [revP_c, if_neg (by omega)]
  have hrb : ∀ k, ((revP f N).c k).natAbs < 4294967296 ^ (40 * 4 ^ i) := fun k => by
    rw [revP_c]; split
    · exact hlv.ok _
    · exact Nat.pow_pos (by omega)
  refine And.symm ⟨⟨Nat.le_trans hrs (by rw [hN]; exact hlv.len), hrb⟩, ?_⟩
  have htr := trimW hi hp
  have htl : (rtrim ps).length = N := by rw [rtrim_lenp, ← hf, hN]
  have htg := fun k => rtrim_cp ps k
  rw [← hf, ← hN] at htg
  -- behind j steps: the upper j places are filled
  obtain ⟨F, hF⟩ : ∃ F : Nat → Nat → Int, F = fun j k => if N ≤ k + j then (revP f N).c k else 0 := ⟨_, rfl⟩
  have hF0 : mz (F 0) N = List.replicate N (riz 0) := by
    rw [mz_zero]; exact mz_ext fun k hk => by rw [hF]; simp only; rw [if_neg (by omega)]
  have hFN : mz (F N) N = mz (revP f N).c N := mz_ext fun k hk => by rw [hF]; simp only; rw [if_pos (by omega)]
  have hFs : ∀ j, j < N → (mz (F j) N).set (N - 1 - j) (riz (f.c j)) = mz (F (j + 1)) N := fun j hj => mz_set (by
      rw [hF]; simp only; rw [if_pos (by omega), revP_c, if_pos (by omega), show N - 1 - (N - 1 - j) = j by omega]) fun k hk hkN => by
    rw [hF]; simp only
    by_cases h : N ≤ k + j
    · rw [if_pos h, if_pos (by omega)]
    · rw [if_neg h, if_neg (by omega)]
  refine fn0 (nt := 30) (res := [.tmp 2]) Try.func57 rfl (by decide) rfl rfl rfl rfl ?_
  intro Cx hP hnt hl
  refine awp_sx prog_ok hP hnt [] [] [] [0] (by kernel_rfl) (G := fun K => K (St.mk [(0, V.d (rp ps))] [] 1)) (fun K => by kernel_rfl) ?_
  refine awp_sx prog_ok hP hnt [] [.val (.d (rp (rtrim ps)))] [] [0] (by kernel_rfl) (G := fun K => Fn Try.prog 161 [V.d (rp ps)] [] (V.d (rp (rtrim ps))) [] ∧ K (St.mk [(0, V.d (rp (rtrim ps)))] [] 4)) (fun K => by kernel_rfl) ?_
  refine ⟨htr, ?_⟩
  refine awp_sx prog_ok hP hnt [(9, .int .i64 N)] [] [] [0, 3] (by kernel_rfl) (G := fun K => (↑(rtrim ps).length : Int) = (↑N : Int) ∧ ((↑N : Int) = (↑N : Int) ∧ (0 : Int) ≤ (↑N : Int) ∧ (↑N : Int) * (↑32 : Int) ≤ (2 : Int) ^ 47) ∧ K (St.mk [(0, V.d (rp (rtrim ps))), (3, V.own 6 0 (↑N : Int).toNat 2)] [(6, some (Blk.mk (zeros (↑N : Int).toNat (TI.mk (Kind.struct [(0, 1), (1, 1)]) 2 32 [D.bool false, D.lst 0 []]).zero) true))] 8)) (fun K => by kernel_rfl) ?_
  refine ⟨by rw [htl], by omega, ?_⟩
  refine awp_cut (ι := Unit) (fun _ => ⟨[(3, .own 0 0 N 2)], [(0, some ⟨rc (mz (F N) N), true⟩)], 1⟩) (fun _ => True) ?_ ?_
  · refine awp_sx prog_ok hP hnt [] [] [] [0, 3, 11, 12, 13] (by kernel_rfl) (G := fun K => K (St.mk [(0, V.d (rp (rtrim ps))), (3, V.own 6 0 (↑N : Int).toNat 2), (11, V.d (rp (rtrim ps))), (12, V.d (D.int IntKind.i64 (↑(rtrim ps).length : Int))), (13, V.d (D.int IntKind.i64 (0 : Int)))] [(6, some (Blk.mk (zeros (↑N : Int).toNat (TI.mk (Kind.struct [(0, 1), (1, 1)]) 2 32 [D.bool false, D.lst 0 []]).zero) true))] 11)) (fun K => by kernel_rfl) ?_
    refine awp_block ?_
    refine awp_loop (ι := Nat) (fun j => ⟨[(0, .d (rp (rtrim ps))), (3, .own 0 0 N 2), (11, .d (rp (rtrim ps))), (12, .d (.int .i64 N)), (13, .d (.int .i64 j))], [(0, some ⟨rc (mz (F j) N), true⟩)], 1⟩)
      (fun j => j ≤ N) (fun j => N - j) 0 [(0, 6)] (by simp) ?_ ?_
    · rw [Int.toNat_natCast]
      (constructor <;> simp [hl, envOk, memOk, conv, St.get, St.blk, zeros_rc, hF0, htl])
    intro j hj
    refine awp_sx prog_ok hP hnt [] [] [] [0, 3, 11, 12, 13, 14] (by kernel_rfl) (G := fun K => K (St.mk [(0, V.d (rp (rtrim ps))), (3, V.own 0 0 N 2), (11, V.d (rp (rtrim ps))), (12, V.d (D.int IntKind.i64 (↑N : Int))), (13, V.d (D.int IntKind.i64 (↑j : Int))), (14, V.d (D.bool (decide ((↑j : Int) < (↑N : Int)))))] [(0, some (Blk.mk (rc (mz (F j) N)) true))] 2)) (fun K => by kernel_rfl) ?_
    refine awp_seq_k fun K1 hK1 => ?_
    refine awp_cond rfl (fun e => awp_skip (hK1 _ ?_)) (fun e => awp_exit ⟨(), [(0, 0)], trivial, ?_⟩)
    · simp at e
      obtain ⟨p, hp1⟩ := get_ex (l := ps) (i := j) (by omega)
      have hp2 : (rtrim ps)[j]? = some p := by rw [htg, if_pos e, hp1]
      have hpo := hp.ok p (List.mem_of_getElem? hp1)
      have hfx : ival p.1 p.2 = f.c j := by rw [hf, pol_c, co_some hp1]; rfl
      have h3 := inorm_fn p.1 p.2 (by have := hpo.2; omega) hpo.1
      rw [hfx] at h3
      have hsc := setCells_rc (mz (F j) N) (N - 1 - j) (riz (f.c j))
      rw [hFs j e, ic_riz] at hsc
      refine awp_seq_k fun K2 hK2 => ?_
      refine awp_block ?_
      refine awp_sx prog_ok hP hnt [] [] [some [.bool p.1, du p.2]] [0, 3, 4, 5, 11, 12, 13] (by kernel_rfl) (G := fun K => ((0 : Int) ≤ (↑j : Int) ∧ (↑j : Int) < (↑(rtrim ps).length : Int) ∧ ((↑j : Int).toNat + 1) * 2 ≤ (rc (rtrim ps)).length) ∧ ((List.drop ((↑j : Int).toNat * 2) (rc (rtrim ps)))[0]? = some (D.bool p.fst) ∧ (List.drop ((↑j : Int).toNat * 2) (rc (rtrim ps)))[1]? = some (du p.snd)) ∧ 0 + [D.bool p.fst, du p.snd].length ≤ (TI.mk (Kind.struct [(0, 1), (1, 1)]) 2 32 [D.bool false, D.lst 0 []]).zero.length ∧ K (St.mk [(0, V.d (rp (rtrim ps))), (3, V.own 0 0 N 2), (11, V.d (rp (rtrim ps))), (12, V.d (D.int IntKind.i64 (↑N : Int))), (13, V.d (D.int IntKind.i64 (↑j : Int))), (5, V.ptr 5 0), (4, V.d (D.int IntKind.i64 (↑j : Int)))] [(0, some (Blk.mk (rc (mz (F j) N)) true)), (5, some (Blk.mk [D.bool p.fst, du p.snd] true))] 8)) (fun K => by kernel_rfl) ?_
      refine ⟨⟨by omega, by omega, by rw [rc_len, htl]; omega⟩, by rw [rc_drop0 hp2]; exact ⟨rfl, rfl⟩, by simp, ?_⟩
      refine awp_x prog_ok hP hnt [(21, .int .i64 (N - 1 : Int)), (23, .int .i64 (N - 1 - j : Nat))] [.val (.agg (iz (f.c j)))] [some [.bool p.1, du p.2]] [0, 3, 11, 12, 13] (by kernel_rfl) (G := fun K => IntKind.i64.wrap ((↑(rtrim ps).length : Int) - (1 : Int)) = (↑N : Int) - (1 : Int) ∧ IntKind.i64.wrap ((↑N : Int) - (1 : Int) - (↑j : Int)) = (↑(N - 1 - j) : Int) ∧ ([D.bool p.fst, du p.snd][0]? = some (D.bool p.fst) ∧ [D.bool p.fst, du p.snd][1]? = some (du p.snd)) ∧ Fn Try.prog 165 [V.agg [D.bool p.fst, du p.snd]] [] (V.agg [D.bool (decide (f.c j < (0 : Int))), du (dig (f.c j).natAbs)]) [] ∧ ((0 : Int) ≤ (↑(N - 1 - j) : Int) ∧ (↑(N - 1 - j) : Int) < (↑N : Int)) ∧ 0 + (↑(N - 1 - j) : Int).toNat * 2 + (iz (f.c j)).length ≤ (rc (mz (F j) N)).length ∧ K (St.mk [(0, V.d (rp (rtrim ps))), (3, V.own 0 0 N 2), (11, V.d (rp (rtrim ps))), (12, V.d (D.int IntKind.i64 (↑N : Int))), (13, V.d (D.int IntKind.i64 (↑j : Int)))] [(0, some (Blk.mk (setCells (rc (mz (F j) N)) (0 + (↑(N - 1 - j) : Int).toNat * 2) (iz (f.c j))) true)), (5, some (Blk.mk [D.bool p.fst, du p.snd] true))] 18)) (fun K => by kernel_rfl) ?_
      refine ⟨by rw [htl, w64] <;> omega, by rw [w64] <;> omega, ⟨rfl, rfl⟩, h3, ⟨by omega, by omega⟩, ?_, hK2 _ ?_⟩
      · rw [rc_len, mz_len, Int.toNat_natCast, Nat.zero_add]; show (N - 1 - j) * 2 + 2 ≤ N * 2; omega
      refine awp_x prog_ok hP hnt [(27, .int .i64 (j + 1 : Nat))] [] [] [0, 3, 11, 12, 13] (by kernel_rfl) (G := fun K => IntKind.i64.wrap ((↑j : Int) + (1 : Int)) = (↑(j + 1) : Int) ∧ K (St.mk [(0, V.d (rp (rtrim ps))), (3, V.own 0 0 N 2), (11, V.d (rp (rtrim ps))), (12, V.d (D.int IntKind.i64 (↑N : Int))), (13, V.d (D.int IntKind.i64 (↑(j + 1) : Int)))] [(0, some (Blk.mk (setCells (rc (mz (F j) N)) (0 + (↑(N - 1 - j) : Int).toNat * 2) (iz (f.c j))) true)), (5, some (Blk.mk [D.bool p.fst, du p.snd] true))] 20)) (fun K => by kernel_rfl) ?_
      refine ⟨by rw [w64] <;> omega, j + 1, [(0, 0)], ⟨by omega, by omega⟩, ?_⟩
      rw [Int.toNat_natCast, Nat.zero_add, hsc]
      (constructor <;> simp [hl, envOk, memOk, conv, St.get, St.blk])
    · simp at e
      have : j = N := by omega
      subst this
      (constructor <;> simp [hl, envOk, memOk, conv, St.get, St.blk])
  intro _ _
  have ht := utrim_fn (mz (F N) N) (by simp; omega) (by rw [hFN]; exact pok_mono (by omega) (mz_ok hrb))
  rw [hFN, rtrim_mz, can_eq (f := revP f N) (fun _ => rfl) hrs] at ht
  refine awp_sx prog_ok hP hnt [] [.val (.d (rp (cp (revP f N))))] [] [2] (by kernel_rfl) (G := fun K => Fn Try.prog 161 [V.d (D.lst N (List.take (N * 2) (List.drop 0 (rc (mz (F N) N)))))] [] (V.d (rp (cp (revP f N)))) [] ∧ K (St.mk [(2, V.d (rp (cp (revP f N))))] [(0, some (Blk.mk (rc (mz (F N) N)) false))] 4)) (fun K => by kernel_rfl) ?_
  refine ⟨?_, awp_ret ⟨.inl rfl, retD rfl⟩⟩
  rw [own_rp (by simp), hFN]
  exact ht
end Go.Abs

set_option linter.unusedVariables false
set_option linter.unusedSimpArgs false
namespace Go.Abs
open Go Go.Proofs Poly
set_option maxRecDepth 100000

theorem Bd.w {n K i : Nat} {f : Poly} (h : Bd n K f) (hn : n ≤ 100 * 2 ^ i) (hK : K ≤ 1280 * 4 ^ i) : W i (cp f) := (h.lv hn hK).w

end Go.Abs

set_option linter.unusedVariables false
set_option linter.unusedSimpArgs false
namespace Go.Abs
open Go Go.Proofs Poly
set_option maxRecDepth 100000

end Go.Abs

set_option linter.unusedVariables false
set_option linter.unusedSimpArgs false
namespace Go.Abs
open Go Go.Proofs
set_option maxRecDepth 100000

/-- the number of bits -/
def blen (n : Nat) : Nat := if n = 0 then 0 else Nat.log2 n + 1
theorem blen_lt (n : Nat) : n < 2 ^ blen n := by
  unfold blen
  by_cases h : n = 0
  · simp [h]
  · rw [if_neg h]; exact Nat.lt_log2_self
theorem blen_le {n : Nat} (h : n ≠ 0) : 2 ^ (blen n - 1) ≤ n := by
  unfold blen
  rw [if_neg h]; exact Nat.log2_self_le h
theorem blen_iff {n k : Nat} : blen n ≤ k ↔ n < 2 ^ k := by
  constructor
  · intro h; exact Nat.lt_of_lt_of_le (blen_lt n) (Nat.pow_le_pow_right (by omega) h)
  · intro h
    by_cases h0 : n = 0
    · subst h0; simp [blen]
    · have h1 := blen_le h0
      have h2 : 2 ^ (blen n - 1) < 2 ^ k := Nat.lt_of_le_of_lt h1 h
      have := (Nat.pow_lt_pow_iff_right (a := 2) (by omega)).1 h2
      omega
theorem blen_eq {n k : Nat} (h1 : n < 2 ^ (k + 1)) (h2 : 2 ^ k ≤ n) : blen n = k + 1 := by
  have a := (blen_iff (n := n) (k := k + 1)).2 h1
  have b : ¬ blen n ≤ k := fun h => by have := blen_iff.1 h; omega
  omega
theorem blen_pos {n : Nat} (h : n ≠ 0) : 0 < blen n := by unfold blen; rw [if_neg h]; omega
theorem blen_shift {n k : Nat} (h : 2 ^ k ≤ n) : blen n = k + blen (n / 2 ^ k) := by
  have hp : 0 < 2 ^ k := Nat.pow_pos (by omega)
  have h0 : n / 2 ^ k ≠ 0 := by have := (Nat.le_div_iff_mul_le hp (x := 1) (y := n)).2 (by omega); omega
  have hb := blen_pos h0
  have h1 := blen_lt (n / 2 ^ k)
  have h2 := blen_le h0
  have := blen_eq (n := n) (k := k + blen (n / 2 ^ k) - 1) (by
    rw [show k + blen (n / 2 ^ k) - 1 + 1 = blen (n / 2 ^ k) + k by omega, Nat.pow_add]
    exact (Nat.div_lt_iff_lt_mul hp).1 h1) (by
    rw [show k + blen (n / 2 ^ k) - 1 = blen (n / 2 ^ k) - 1 + k by omega, Nat.pow_add]
    exact (Nat.le_div_iff_mul_le hp).1 h2)
  omega

theorem fdivN (a k : Nat) : Int.fdiv (a : Int) (2 ^ k) = (a / 2 ^ k : Nat) := by
  rw [Int.fdiv_eq_ediv_of_nonneg _ (Int.pow_nonneg (by decide))]
  simp

def len8 : ByteArray := ⟨#[0, 1, 2, 2, 3, 3, 3, 3, 4, 4, 4, 4, 4, 4, 4, 4, 5, 5, 5, 5, 5, 5, 5, 5, 5, 5, 5, 5, 5, 5, 5, 5, 6, 6, 6, 6, 6, 6, 6, 6, 6, 6, 6, 6, 6, 6, 6, 6, 6, 6, 6, 6, 6, 6, 6, 6, 6, 6, 6, 6, 6, 6, 6, 6, 7, 7, 7, 7, 7, 7, 7, 7, 7, 7, 7, 7, 7, 7, 7, 7, 7, 7, 7, 7, 7, 7, 7, 7, 7, 7, 7, 7, 7, 7, 7, 7, 7, 7, 7, 7, 7, 7, 7, 7, 7, 7, 7, 7, 7, 7, 7, 7, 7, 7, 7, 7, 7, 7, 7, 7, 7, 7, 7, 7, 7, 7, 7, 7, 8, 8, 8, 8, 8, 8, 8, 8, 8, 8, 8, 8, 8, 8, 8, 8, 8, 8, 8, 8, 8, 8, 8, 8, 8, 8, 8, 8, 8, 8, 8, 8, 8, 8, 8, 8, 8, 8, 8, 8, 8, 8, 8, 8, 8, 8, 8, 8, 8, 8, 8, 8, 8, 8, 8, 8, 8, 8, 8, 8, 8, 8, 8, 8, 8, 8, 8, 8, 8, 8, 8, 8, 8, 8, 8, 8, 8, 8, 8, 8, 8, 8, 8, 8, 8, 8, 8, 8, 8, 8, 8, 8, 8, 8, 8, 8, 8, 8, 8, 8, 8, 8, 8, 8, 8, 8, 8, 8, 8, 8, 8, 8, 8, 8, 8, 8, 8, 8, 8, 8, 8, 8, 8, 8, 8, 8, 8, 8]⟩
theorem len8_eq : ∀ z, z < 256 → len8[z]? = some (UInt8.ofNat (blen z)) := by decide +kernel

theorem len32_fn (x : Nat) (hx : x < 4294967296) : Fn Try.prog 246 [.d (.int .u32 x)] [] (.d (.int .i64 (blen x))) [] := by
  refine fn0 (nt := 19) (res := [.tmp 2]) Try.func246 rfl (by decide) rfl rfl rfl rfl ?_
  intro Cx hP hnt hl
  have h32 : blen x ≤ 32 := blen_iff.2 hx
  refine awp_sx prog_ok hP hnt [] [] [] [0, 2] (by kernel_rfl) (G := fun K => K (St.mk [(0, V.d (D.int IntKind.u32 (↑x : Int))), (2, V.d (D.int IntKind.i64 (0 : Int)))] [] 1)) (fun K => by kernel_rfl) ?_
  refine awp_cut (ι := Nat) (fun y => ⟨[(0, .d (.int .u32 y)), (2, .d (.int .i64 (blen x - blen y : Nat)))], [], 8⟩) (fun y => y < 65536 ∧ blen y ≤ blen x) ?_ ?_
  · refine awp_sx prog_ok hP hnt [] [] [] [0, 2, 4] (by kernel_rfl) (G := fun K => K (St.mk [(0, V.d (D.int IntKind.u32 (↑x : Int))), (2, V.d (D.int IntKind.i64 (0 : Int))), (4, V.d (D.bool (decide ((↑x : Int) ≥ (65536 : Int)))))] [] 3)) (fun K => by kernel_rfl) ?_
    refine awp_cond rfl (fun e => ?_) (fun e => awp_skip ⟨x, [], ?_, ?_⟩)
    · simp at e
      have hs := blen_shift (n := x) (k := 16) (by omega)
      rw [show x / 2 ^ 16 = x / 65536 from rfl] at hs
      have hw : (x : Int).fdiv (2 ^ 16) = (x / 65536 : Nat) := fdivN x 16
      refine awp_sx prog_ok hP hnt [(6, .int .u32 (x / 65536 : Nat))] [] [] [0] (by kernel_rfl) (G := fun K => (0 : Int) ≤ (16 : Int) ∧ (↑x : Int).fdiv ((2 : Int) ^ min (Int.toNat (16 : Int)) IntKind.u32.bits) = (↑(x / 65536) : Int) ∧ K (St.mk [(0, V.d (D.int IntKind.u32 (↑(x / 65536) : Int)))] [] 6)) (fun K => by kernel_rfl) ?_
      refine ⟨by omega, hw, ?_⟩
      refine awp_x prog_ok hP hnt [] [] [] [0, 2] (by kernel_rfl) (G := fun K => K (St.mk [(0, V.d (D.int IntKind.u32 (↑(x / 65536) : Int))), (2, V.d (D.int IntKind.i64 (16 : Int)))] [] 7)) (fun K => by kernel_rfl) ?_
      refine ⟨x / 65536, [], ⟨by omega, by omega⟩, ?_⟩
      (constructor <;> simp [hl, envOk, memOk, conv, St.get, St.blk])
      omega
    · simp at e
      exact ⟨by omega, Nat.le_refl _⟩
    · (constructor <;> simp [hl, envOk, memOk, conv, St.get, St.blk])
  intro y ⟨hy, hb⟩
  refine awp_cut (ι := Nat) (fun z => ⟨[(0, .d (.int .u32 z)), (2, .d (.int .i64 (blen x - blen z : Nat)))], [], 12⟩) (fun z => z < 256 ∧ blen z ≤ blen x) ?_ ?_
  · refine awp_sx prog_ok hP hnt [] [] [] [0, 2, 8] (by kernel_rfl) (G := fun K => K (St.mk [(0, V.d (D.int IntKind.u32 (↑y : Int))), (2, V.d (D.int IntKind.i64 (↑(blen x - blen y) : Int))), (8, V.d (D.bool (decide ((↑y : Int) ≥ (256 : Int)))))] [] 10)) (fun K => by kernel_rfl) ?_
    refine awp_cond rfl (fun e => ?_) (fun e => awp_skip ⟨y, [], ?_, ?_⟩)
    · simp at e
      have hs := blen_shift (n := y) (k := 8) (by omega)
      rw [show y / 2 ^ 8 = y / 256 from rfl] at hs
      have hw : (y : Int).fdiv (2 ^ 8) = (y / 256 : Nat) := fdivN y 8
      refine awp_sx prog_ok hP hnt [(10, .int .u32 (y / 256 : Nat))] [] [] [0, 2] (by kernel_rfl) (G := fun K => (0 : Int) ≤ (8 : Int) ∧ (↑y : Int).fdiv ((2 : Int) ^ min (Int.toNat (8 : Int)) IntKind.u32.bits) = (↑(y / 256) : Int) ∧ K (St.mk [(0, V.d (D.int IntKind.u32 (↑(y / 256) : Int))), (2, V.d (D.int IntKind.i64 (↑(blen x - blen y) : Int)))] [] 13)) (fun K => by kernel_rfl) ?_
      refine ⟨by omega, hw, ?_⟩
      refine awp_x prog_ok hP hnt [(12, .int .i64 (blen x - blen (y / 256) : Nat))] [] [] [0, 2] (by kernel_rfl) (G := fun K => IntKind.i64.wrap ((↑(blen x - blen y) : Int) + (8 : Int)) = (↑(blen x - blen (y / 256)) : Int) ∧ K (St.mk [(0, V.d (D.int IntKind.u32 (↑(y / 256) : Int))), (2, V.d (D.int IntKind.i64 (↑(blen x - blen (y / 256)) : Int)))] [] 16)) (fun K => by kernel_rfl) ?_
      refine ⟨by rw [w64] <;> omega, y / 256, [], ⟨by omega, by omega⟩, ?_⟩
      (constructor <;> simp [hl, envOk, memOk, conv, St.get, St.blk])
    · simp at e
      exact ⟨by omega, hb⟩
    · (constructor <;> simp [hl, envOk, memOk, conv, St.get, St.blk])
  intro z ⟨hz, hb⟩
  have hz8 : blen z ≤ 8 := blen_iff.2 (by omega)
  refine awp_sx prog_ok hP hnt [(15, .int .u8 z), (17, .int .i64 (blen z)), (18, .int .i64 (blen x))] [] [] [2] (by kernel_rfl) (G := fun K => IntKind.u8.wrap (z : Int) = z ∧ ∃ b, Try.prog.underlying 9 = some .string ∧ 0 ≤ (z : Int) ∧ len8[(z : Int).toNat]? = some b ∧ IntKind.i64.wrap (b.toNat : Int) = blen z ∧ IntKind.i64.wrap ((blen x - blen z : Nat) + (blen z : Int)) = blen x ∧ K (St.mk [(2, V.d (D.int IntKind.i64 (blen x)))] [] 19)) (fun K => by kernel_rfl) ?_
  refine ⟨IntWalk.u8_in _ (by omega), UInt8.ofNat (blen z), rfl, by omega, len8_eq z hz, ?_, by rw [w64] <;> omega, ?_⟩
  · rw [UInt8.toNat_ofNat', w64] <;> omega
  · exact awp_ret ⟨.inl rfl, retD rfl⟩

theorem lz32_fn (x : Nat) (hx : x < 4294967296) : Fn Try.prog 248 [.d (.int .u32 x)] [] (.d (.int .i64 (32 - blen x : Nat))) [] := by
  refine fn0 (nt := 6) (res := [.tmp 2]) Try.func248 rfl (by decide) rfl rfl rfl rfl ?_
  intro Cx hP hnt hl
  have h32 : blen x ≤ 32 := blen_iff.2 hx
  refine awp_sx prog_ok hP hnt [] [] [] [0] (by kernel_rfl) (G := fun K => K (St.mk [(0, V.d (D.int IntKind.u32 (↑x : Int)))] [] 1)) (fun K => by kernel_rfl) ?_
  refine awp_sx prog_ok hP hnt [(5, .int .i64 (32 - blen x : Nat))] [.val (.d (.int .i64 (blen x)))] [] [2] (by kernel_rfl) (G := fun K => Fn Try.prog 246 [V.d (D.int IntKind.u32 (↑x : Int))] [] (V.d (D.int IntKind.i64 (↑(blen x) : Int))) [] ∧ IntKind.i64.wrap ((32 : Int) - (↑(blen x) : Int)) = (↑(32 - blen x) : Int) ∧ K (St.mk [(2, V.d (D.int IntKind.i64 (↑(32 - blen x) : Int)))] [] 5)) (fun K => by kernel_rfl) ?_
  exact ⟨len32_fn x hx, by rw [w64] <;> omega, awp_ret ⟨.inl rfl, retD rfl⟩⟩

theorem or_lt {a b s : Nat} (h : b < 2 ^ s) : a * 2 ^ s ||| b = a * 2 ^ s + b := by
  rw [← Nat.shiftLeft_eq, Nat.shiftLeft_add_eq_or_of_lt h]
theorem or_u64 {x y : Nat} (hx : x < 2 ^ 64) (hy : y < 2 ^ 64) : IntKind.u64.wrap (BitVec.ofInt IntKind.u64.bits (x : Int) ||| BitVec.ofInt IntKind.u64.bits (y : Int)).toNat = (x ||| y : Nat) := by
  have h : (x ||| y) < 2 ^ 64 := Nat.or_lt_two_pow hx hy
  show IntKind.u64.wrap (BitVec.ofInt 64 (x : Int) ||| BitVec.ofInt 64 (y : Int)).toNat = _
  rw [BitVec.toNat_or, BitVec.ofInt_natCast, BitVec.ofInt_natCast, BitVec.toNat_ofNat, BitVec.toNat_ofNat, Nat.mod_eq_of_lt hx, Nat.mod_eq_of_lt hy]
  exact u64w (by omega) (by omega)
theorem or_u32 {x y : Nat} (hx : x < 2 ^ 32) (hy : y < 2 ^ 32) : IntKind.u32.wrap (BitVec.ofInt IntKind.u32.bits (x : Int) ||| BitVec.ofInt IntKind.u32.bits (y : Int)).toNat = (x ||| y : Nat) := by
  have h : (x ||| y) < 2 ^ 32 := Nat.or_lt_two_pow hx hy
  show IntKind.u32.wrap (BitVec.ofInt 32 (x : Int) ||| BitVec.ofInt 32 (y : Int)).toNat = _
  rw [BitVec.toNat_or, BitVec.ofInt_natCast, BitVec.ofInt_natCast, BitVec.toNat_ofNat, BitVec.toNat_ofNat, Nat.mod_eq_of_lt hx, Nat.mod_eq_of_lt hy]
  exact u32w (by omega) (by omega)
theorem shl32 {x : Nat} (h : x < 4294967296) : IntKind.u64.wrap ((x : Int) * 2 ^ (min (Int.toNat 32) IntKind.u64.bits)) = (x * 4294967296 : Nat) := by
  rw [show min (Int.toNat 32) IntKind.u64.bits = 32 from rfl, u64w] <;> omega
theorem or_u64' {x y z : Nat} (hx : x < 18446744073709551616) (hy : y < 18446744073709551616) (h : (x ||| y) = z) : IntKind.u64.wrap (BitVec.ofInt IntKind.u64.bits (x : Int) ||| BitVec.ofInt IntKind.u64.bits (y : Int)).toNat = z := by
  rw [or_u64 hx hy, h]

theorem or_w {h l : Nat} (h1 : h < 4294967296) (h2 : l < 4294967296) : IntKind.u64.wrap (BitVec.ofInt IntKind.u64.bits ((h * 4294967296 : Nat) : Int) ||| BitVec.ofInt IntKind.u64.bits (l : Int)).toNat = (h * 4294967296 + l : Nat) :=
  or_u64' (by omega) (by omega) (or_lt (a := h) (s := 32) h2)

theorem div32_fn (h l d : Nat) (hd : h < d) (hl0 : l < 4294967296) (hd2 : d < 4294967296) : Fn Try.prog 260 [.d (.int .u32 h), .d (.int .u32 l), .d (.int .u32 d)] []
    (.tup [.d (.int .u32 ((h * 4294967296 + l) / d : Nat)), .d (.int .u32 ((h * 4294967296 + l) % d : Nat))]) [] := by
  refine fn0 (nt := 33) (res := [.tmp 6, .tmp 7]) Try.func260 rfl (by decide) rfl rfl rfl rfl ?_
  intro Cx hP hnt hl
  refine awp_sx prog_ok hP hnt [] [] [] [0, 1, 2] (by kernel_rfl) (G := fun K => K (St.mk [(0, V.d (D.int IntKind.u32 (↑h : Int))), (1, V.d (D.int IntKind.u32 (↑l : Int))), (2, V.d (D.int IntKind.u32 (↑d : Int)))] [] 2)) (fun K => by kernel_rfl) ?_
  refine awp_cut (ι := Unit) (fun _ => ⟨[(0, .d (.int .u32 h)), (1, .d (.int .u32 l)), (2, .d (.int .u32 d))], [], 9⟩) (fun _ => True) ?_ ?_
  · refine awp_sx prog_ok hP hnt [(10, .bool true), (14, .bool false)] [] [] [0, 1, 2, 15] (by kernel_rfl) (G := fun K => ((↑d : Int) != (0 : Int)) = true ∧ decide ((↑d : Int) ≤ (↑h : Int)) = false ∧ K (St.mk [(0, V.d (D.int IntKind.u32 (↑h : Int))), (1, V.d (D.int IntKind.u32 (↑l : Int))), (2, V.d (D.int IntKind.u32 (↑d : Int))), (15, V.d (D.bool false))] [] 9)) (fun K => by kernel_rfl) ?_
    refine ⟨by simp; omega, by simp; omega, awp_cond (b := false) rfl nofun fun _ => awp_skip ⟨(), [], trivial, ?_⟩⟩
    (constructor <;> simp [hl, envOk, memOk, conv, St.get, St.blk])
  intro _ _
  have e0 : h * 4294967296 + l < 18446744073709551616 := by omega
  have e1 := shl32 (x := h) (by omega)
  have e2 := or_w (h := h) (l := l) (by omega) hl0
  have hdp : 0 < d := by omega
  refine awp_sx prog_ok hP hnt [(18, .int .u64 h), (19, .int .u64 (h * 4294967296 : Nat)), (21, .int .u64 l), (22, .int .u64 (h * 4294967296 + l : Nat))] [] [] [2, 8] (by kernel_rfl) (G := fun K => IntKind.u64.wrap (↑h : Int) = (↑h : Int) ∧ (0 : Int) ≤ (32 : Int) ∧ IntKind.u64.wrap ((↑h : Int) * (2 : Int) ^ min (Int.toNat (32 : Int)) IntKind.u64.bits) = (↑(h * 4294967296) : Int) ∧ IntKind.u64.wrap (↑l : Int) = (↑l : Int) ∧ IntKind.u64.wrap (↑(BitVec.ofInt IntKind.u64.bits (↑(h * 4294967296) : Int) ||| BitVec.ofInt IntKind.u64.bits (↑l : Int)).toNat : Int) = (↑(h * 4294967296 + l) : Int) ∧ K (St.mk [(2, V.d (D.int IntKind.u32 (↑d : Int))), (8, V.d (D.int IntKind.u64 (↑(h * 4294967296 + l) : Int)))] [] 16)) (fun K => by kernel_rfl) ?_
  refine ⟨u64w (by omega) (by omega), by omega, e1, u64w (by omega) (by omega), e2, ?_⟩
  obtain ⟨n, hn⟩ : ∃ n, n = h * 4294967296 + l := ⟨_, rfl⟩
  rw [← hn] at e0 ⊢
  have hq : n / d < 4294967296 := by
    rw [Nat.div_lt_iff_lt_mul hdp, hn]
    have : (h + 1) * 4294967296 ≤ d * 4294967296 := Nat.mul_le_mul_right _ hd
    omega
  have hr : n % d < d := Nat.mod_lt _ hdp
  have et : ((n : Int).tdiv (d : Int)) = (n / d : Nat) := rfl
  have er : ((n : Int).tmod (d : Int)) = (n % d : Nat) := rfl
  obtain ⟨q, hq0⟩ : ∃ q, q = n / d := ⟨_, rfl⟩
  obtain ⟨r, hr0⟩ : ∃ r, r = n % d := ⟨_, rfl⟩
  rw [← hq0] at hq et ⊢
  rw [← hr0] at hr er ⊢
  refine awp_sx prog_ok hP hnt [(25, .int .u64 d), (26, .int .u64 (q : Nat)), (27, .int .u32 (q : Nat)), (30, .int .u64 d), (31, .int .u64 (r : Nat)), (32, .int .u32 (r : Nat))] [] [] [6, 7] (by kernel_rfl) (G := fun K => IntKind.u64.wrap (↑d : Int) = (↑d : Int) ∧ (↑d : Int) ≠ (0 : Int) ∧ IntKind.u64.wrap ((↑n : Int).tdiv (↑d : Int)) = (↑q : Int) ∧ IntKind.u32.wrap (↑q : Int) = (↑q : Int) ∧ IntKind.u64.wrap (↑d : Int) = (↑d : Int) ∧ (↑d : Int) ≠ (0 : Int) ∧ (↑n : Int).tmod (↑d : Int) = (↑r : Int) ∧ IntKind.u32.wrap (↑r : Int) = (↑r : Int) ∧ K (St.mk [(6, V.d (D.int IntKind.u32 (↑q : Int))), (7, V.d (D.int IntKind.u32 (↑r : Int)))] [] 28)) (fun K => by kernel_rfl) ?_
  refine ⟨u64w (by omega) (by omega), by omega, by rw [et]; exact u64w (by omega) (by omega), u32w (by omega) (by omega), u64w (by omega) (by omega), by omega, er, u32w (by omega) (by omega), awp_ret ⟨.inl rfl, ret2 rfl rfl⟩⟩

theorem div64_fn (n d : Nat) (hd : 0 < d) (hn : n < 18446744073709551616) (hd2 : d < 18446744073709551616) : Fn Try.prog 249 [.d (.int .u64 0), .d (.int .u64 n), .d (.int .u64 d)] []
    (.tup [.d (.int .u64 (n / d : Nat)), .d (.int .u64 (n % d : Nat))]) [] := by
  refine fn0 (nt := 135) (res := [.tmp 6, .tmp 7]) Try.func249 rfl (by decide) rfl rfl rfl rfl ?_
  intro Cx hP hnt hl
  refine awp_sx prog_ok hP hnt [] [] [] [0, 1, 2] (by kernel_rfl) (G := fun K => K (St.mk [(0, V.d (D.int IntKind.u64 (0 : Int))), (1, V.d (D.int IntKind.u64 (↑n : Int))), (2, V.d (D.int IntKind.u64 (↑d : Int)))] [] 2)) (fun K => by kernel_rfl) ?_
  refine awp_cut (ι := Unit) (fun _ => ⟨[(0, .d (.int .u64 0)), (1, .d (.int .u64 n)), (2, .d (.int .u64 d))], [], 9⟩) (fun _ => True) ?_ ?_
  · refine awp_sx prog_ok hP hnt [(20, .bool false)] [] [] [0, 1, 2, 20] (by kernel_rfl) (G := fun K => ((↑d : Int) == (0 : Int)) = false ∧ K (St.mk [(0, V.d (D.int IntKind.u64 (0 : Int))), (1, V.d (D.int IntKind.u64 (↑n : Int))), (2, V.d (D.int IntKind.u64 (↑d : Int))), (20, V.d (D.bool false))] [] 4)) (fun K => by kernel_rfl) ?_
    refine ⟨by simp; omega, awp_cond (b := false) rfl nofun fun _ => awp_skip ⟨(), [], trivial, ?_⟩⟩
    (constructor <;> simp [hl, envOk, memOk, conv, St.get, St.blk])
  intro _ _
  refine awp_cut (ι := Unit) (fun _ => ⟨[(0, .d (.int .u64 0)), (1, .d (.int .u64 n)), (2, .d (.int .u64 d))], [], 9⟩) (fun _ => True) ?_ ?_
  · refine awp_sx prog_ok hP hnt [(24, .bool false)] [] [] [0, 1, 2, 24] (by kernel_rfl) (G := fun K => decide ((↑d : Int) ≤ (0 : Int)) = false ∧ K (St.mk [(0, V.d (D.int IntKind.u64 (0 : Int))), (1, V.d (D.int IntKind.u64 (↑n : Int))), (2, V.d (D.int IntKind.u64 (↑d : Int))), (24, V.d (D.bool false))] [] 12)) (fun K => by kernel_rfl) ?_
    refine ⟨by simp; omega, awp_cond (b := false) rfl nofun fun _ => awp_skip ⟨(), [], trivial, ?_⟩⟩
    (constructor <;> simp [hl, envOk, memOk, conv, St.get, St.blk])
  intro _ _
  have et : ((n : Int).tdiv (d : Int)) = (n / d : Nat) := rfl
  have er : ((n : Int).tmod (d : Int)) = (n % d : Nat) := rfl
  have hq : n / d ≤ n := Nat.div_le_self _ _
  obtain ⟨q, hq0⟩ : ∃ q, q = n / d := ⟨_, rfl⟩
  obtain ⟨r, hr0⟩ : ∃ r, r = n % d := ⟨_, rfl⟩
  rw [← hq0] at hq et ⊢
  rw [← hr0] at er ⊢
  refine awp_seq_k fun K hK => ?_
  refine awp_sx prog_ok hP hnt [(27, .bool true)] [] [] [0, 1, 2, 27] (by kernel_rfl) (G := fun K => ((0 : Int) == (0 : Int)) = true ∧ K (St.mk [(0, V.d (D.int IntKind.u64 (0 : Int))), (1, V.d (D.int IntKind.u64 (↑n : Int))), (2, V.d (D.int IntKind.u64 (↑d : Int))), (27, V.d (D.bool true))] [] 11)) (fun K => by kernel_rfl) ?_
  refine ⟨rfl, awp_cond (b := true) rfl (fun _ => ?_) nofun⟩
  refine awp_sx prog_ok hP hnt [(30, .int .u64 (q : Nat)), (33, .int .u64 (r : Nat))] [] [] [6, 7] (by kernel_rfl) (G := fun K => (↑d : Int) ≠ (0 : Int) ∧ IntKind.u64.wrap ((↑n : Int).tdiv (↑d : Int)) = (↑q : Int) ∧ (↑d : Int) ≠ (0 : Int) ∧ (↑n : Int).tmod (↑d : Int) = (↑r : Int) ∧ K (St.mk [(6, V.d (D.int IntKind.u64 (↑q : Int))), (7, V.d (D.int IntKind.u64 (↑r : Int)))] [] 19)) (fun K => by kernel_rfl) ?_
  exact ⟨by omega, by rw [et]; exact u64w (by omega) (by omega), by omega, er, awp_ret ⟨.inl rfl, ret2 rfl rfl⟩⟩
end Go.Abs

set_option linter.unusedVariables false
set_option linter.unusedSimpArgs false
namespace Go.Abs
open Go
variable {P : Program}

/-- less known of a made block -/
theorem Fn.out_take {f : Nat} {args : List V} {lent : List (Nat × Blk)} {r : V} {b : Nat} {cells : List D} {l : Bool} (h : Fn P f args lent r [(b, ⟨cells, l⟩)]) (n : Nat) : Fn P f args lent r [(b, ⟨cells.take n, l⟩)] := by
  refine ⟨h.1, fun w ok β vs hok hs hr hl hi => ?_⟩
  refine (h.2 w ok β vs hok hs hr hl hi).mono ?_
  rintro e w' ⟨v, ok', β', rfl, hc⟩
  refine ⟨v, ok', β', rfl, hc.os, hc.tape, hc.output, hc.size, hc.keep, hc.shape, hc.lo, hc.hi, hc.lt, hc.res, hc.same, fun x kx hx => ?_, fun x y kx ky B hx hy h1 h2 => ?_⟩
  · simp at hx
    obtain ⟨rfl, rfl⟩ := hx
    rcases hc.made x _ (List.mem_singleton.2 rfl) with ⟨h1, h2⟩ | ⟨B, h1, h2, h3⟩
    · simp at h2; exact .inl ⟨h1, by simp [h2]⟩
    · obtain ⟨arr, T, g1, g2, g3, g4, g5⟩ := h2
      refine .inr ⟨B, h1, ⟨arr, T, g1, ?_, fun i d hd => g3 i d ?_, g4, g5⟩, h3⟩
      · simp at g2 ⊢; omega
      · simp at hd ⊢
        rw [List.getElem?_take] at hd
        split at hd
        · exact hd
        · cases hd
  · simp at hx hy
    rw [hx.1, hy.1]

/-- a made row, told as plain data -/
theorem Fn.freeze {f : Nat} {args : List V} {b off n sz : Nat} {cells : List D} (h : Fn P f args [] (.own b off n sz) [(b, ⟨cells, true⟩)]) : Fn P f args [] (.d (.lst n ((cells.drop off).take (n * sz)))) [] := by
  refine ⟨h.1, fun w ok β vs hok hs hr hl hi => ?_⟩
  refine (h.2 w ok β vs hok hs hr hl hi).mono ?_
  rintro e w' ⟨v, ok', β', rfl, hc⟩
  have hres := hc.res
  simp only [RepV] at hres
  obtain ⟨A, c, rfl, hn, hA⟩ := hres
  have base : ∀ ok'' : Nat → Prop, (∀ k, ok' k → ok'' k) → (∀ k, ok'' k → ok k ∨ w.heap.size ≤ k) → (∀ k, ok'' k → k < w'.heap.size) → RepL w'.heap ok'' A 0 ((cells.drop off).take (n * sz)) →
      ∃ v ok'' β'', Ending.returned (.slice A n c) = .returned v ∧ CallOk w ok β [] (.d (.lst n ((cells.drop off).take (n * sz)))) [] v w' ok'' β'' := fun ok'' h1 h2 h3 h4 =>
    ⟨_, ok'', β', rfl, hc.os, hc.tape, hc.output, hc.size, hc.keep, hc.shape, fun k hk => h1 k (hc.lo k hk), fun k hk => (h2 k hk).imp id .inr, h3, by simp only [RepV, RepD]; exact ⟨A, c, rfl, hn, h4⟩, by simp, by simp, by simp⟩
  have hhi : ∀ k, ok' k → ok k ∨ w.heap.size ≤ k := fun k hk => by
    rcases hc.hi k hk with h1 | ⟨_, _, h1, _⟩ | h1
    · exact .inl h1
    · simp at h1
    · exact .inr h1
  rcases hA with ⟨rfl, rfl⟩ | ⟨B, arr, T, rfl, e2, e3, e4⟩
  · refine base ok' (fun _ h => h) hhi hc.lt ?_
    have : n = 0 := by omega
    subst this
    simp [RepL]
  · rcases hc.made b _ (List.mem_singleton.2 rfl) with ⟨h1, h2⟩ | ⟨B', h1, h2, h3⟩
    · rw [h1] at e2; cases e2
    · rw [h1] at e2
      cases e2
      obtain ⟨arr', T', g1, g2, g3, g4, g5⟩ := h2
      have hB : w.heap.size ≤ B := by
        rcases h3 with ⟨_, _, h3, _⟩ | h3
        · simp at h3
        · exact h3
      have hB2 : B < w'.heap.size := (Array.getElem?_eq_some_iff.1 g1).1
      refine base (fun k => ok' k ∨ k = B) (fun _ h => .inl h) (fun k hk => ?_) (fun k hk => ?_) ?_
      · rcases hk with hk | rfl
        · exact hhi k hk
        · exact .inr hB
      · rcases hk with hk | rfl
        · exact hc.lt k hk
        · exact hB2
      · rw [RepL_iff]
        intro i d hd
        rw [List.getElem?_take] at hd
        split at hd
        · rw [List.getElem?_drop] at hd
          obtain ⟨u, hu, hr2⟩ := g3 _ d hd
          exact ⟨B, off, u, rfl, .inr rfl, ⟨arr', T', _, g1, by simpa using hu⟩, RepD.keep ⟨fun _ _ => rfl, fun _ h => .inl h⟩ d u hr2⟩
        · cases hd

/-- a function that holds a label, and whose run jumps to none -/
theorem awp_scope {C : Ctx} {c : Code} {s : St} {R : St → Prop} (h : AWP C c s (fun e s' => (e = .ret ∨ e = .normal) ∧ R s')) : AWP C (.scope c) s (fun e s' => (e = .ret ∨ e = .normal) ∧ R s') := fun a w hS => by
  refine wp_scope_straight (Code.wp_mono (fun e a' w' hq => ?_) (h a w hS))
  obtain ⟨s', ⟨he, hr⟩, h2⟩ := hq
  rcases he with rfl | rfl
  · exact ⟨s', ⟨.inl rfl, hr⟩, h2⟩
  · exact ⟨s', ⟨.inr rfl, hr⟩, h2⟩
end Go.Abs

set_option linter.unusedVariables false
set_option linter.unusedSimpArgs false
namespace Go.Abs
open Go Go.Proofs
set_option maxRecDepth 100000

theorem dig_len0 {n : Nat} : (dig n).length = 0 ↔ n = 0 := by rw [List.length_eq_zero_iff, dig_nil]
/-- the top digit -/
theorem dig_top {n : Nat} (h : n ≠ 0) : ∃ t, (dig n)[(dig n).length - 1]? = some t ∧ t ≠ 0 ∧ t < 4294967296 ∧ t = n / 4294967296 ^ ((dig n).length - 1) := by
  have hp : 0 < (dig n).length := by have := mt dig_len0.1 h; omega
  obtain ⟨t, ht⟩ := get_ex (l := dig n) (i := (dig n).length - 1) (by omega)
  have h1 := val_take_succ ht
  rw [show (dig n).length - 1 + 1 = (dig n).length by omega, List.take_of_length_le (Nat.le_refl _), val_dig] at h1
  have h2 := val_take_lt (dig_lt n) ((dig n).length - 1)
  have hq : t = n / 4294967296 ^ ((dig n).length - 1) := by
    obtain ⟨M, hM⟩ : ∃ M, M = (dig n).length - 1 := ⟨_, rfl⟩
    rw [← hM] at h1 h2 ⊢
    rw [h1, Nat.add_mul_div_left _ _ (Nat.pow_pos (by omega)), Nat.div_eq_of_lt h2]; omega
  have hge := dig_ge (n := n) (k := (dig n).length - 1) (by omega)
  refine ⟨t, ht, ?_, dig_get' t ht, hq⟩
  intro e
  subst e
  rw [Nat.mul_zero, Nat.add_zero] at h1
  omega
where dig_get' (t : Nat) (ht : (dig n)[(dig n).length - 1]? = some t) : t < 4294967296 := dg_get (dig_lt n) ht

theorem bitlen_fn (l : List Nat) (h : l.length ≤ 2 ^ 40) (hd : Dg l) : Fn Try.prog 235 [.d (du l)] [] (.d (.int .i64 (blen (val l)))) [] := by
  refine fn0 (nt := 20) (res := [.tmp 2]) Try.func235 rfl (by decide) rfl rfl rfl rfl ?_
  intro Cx hP hnt hl
  have ht := trim_fn l (by omega) hd
  have hle := dig_le hd
  obtain ⟨n, hn⟩ : ∃ n, n = val l := ⟨_, rfl⟩
  rw [← hn] at ht hle ⊢
  refine awp_sx prog_ok hP hnt [] [] [] [0] (by kernel_rfl) (G := fun K => K (St.mk [(0, V.d (du l))] [] 1)) (fun K => by kernel_rfl) ?_
  refine awp_sx prog_ok hP hnt [] [.val (.d (du (dig n)))] [] [0] (by kernel_rfl) (G := fun K => Fn Try.prog 212 [V.d (du l)] [] (V.d (du (dig n))) [] ∧ K (St.mk [(0, V.d (du (dig n)))] [] 4)) (fun K => by kernel_rfl) ?_
  refine ⟨ht, ?_⟩
  refine awp_seq_k fun K hK => ?_
  refine awp_sx prog_ok hP hnt [] [] [] [0, 7] (by kernel_rfl) (G := fun K => K (St.mk [(0, V.d (du (dig n))), (7, V.d (D.bool ((↑(dig n).length : Int) == (0 : Int))))] [] 7)) (fun K => by kernel_rfl) ?_
  refine awp_cond rfl (fun e => ?_) (fun e => awp_skip (hK _ ?_))
  · simp at e
    rw [dig_nil] at e
    subst e
    refine awp_sx prog_ok hP hnt [] [] [] [2] (by kernel_rfl) (G := fun K => K (St.mk [(2, V.d (D.int IntKind.i64 (0 : Int)))] [] 8)) (fun K => by kernel_rfl) ?_
    exact awp_ret ⟨.inl rfl, retD rfl⟩
  · simp at e
    rw [dig_nil] at e
    obtain ⟨t, h1, h2, h3, h4⟩ := dig_top e
    have hp : 0 < (dig n).length := by have := mt dig_len0.1 e; omega
    have hge := dig_ge (n := n) (k := (dig n).length - 1) (by omega)
    have hbl : blen n = 32 * ((dig n).length - 1) + blen t := by
      rw [h4, blen_shift (n := n) (k := 32 * ((dig n).length - 1)) (by rw [Nat.pow_mul]; exact hge), Nat.pow_mul]
    have ht32 : blen t ≤ 32 := blen_iff.2 h3
    obtain ⟨N, hN⟩ : ∃ N, N = (dig n).length := ⟨_, rfl⟩
    rw [← hN] at h1 hp hbl hle
    refine awp_sx prog_ok hP hnt [(10, .int .i64 (N - 1 : Nat)), (11, .int .i64 (32 * (N - 1) : Nat)), (15, .int .i64 (N - 1 : Nat)), (19, .int .i64 (blen n))] [.val (.d (.int .i64 (blen t)))] [some [.int .u32 t]] [2] (by kernel_rfl) (G := fun K => IntKind.i64.wrap ((↑(dig n).length : Int) - (1 : Int)) = (↑(N - 1) : Int) ∧ IntKind.i64.wrap ((32 : Int) * (↑(N - 1) : Int)) = (↑(32 * (N - 1)) : Int) ∧ IntKind.i64.wrap ((↑(dig n).length : Int) - (1 : Int)) = (↑(N - 1) : Int) ∧ ((0 : Int) ≤ (↑(N - 1) : Int) ∧ (↑(N - 1) : Int) < (↑(dig n).length : Int) ∧ ((↑(N - 1) : Int).toNat + 1) * 1 ≤ (u32s (dig n)).length) ∧ (List.drop ((↑(N - 1) : Int).toNat * 1) (u32s (dig n)))[0]? = some (D.int IntKind.u32 (↑t : Int)) ∧ Fn Try.prog 246 [V.d (D.int IntKind.u32 (↑t : Int))] [] (V.d (D.int IntKind.i64 (↑(blen t) : Int))) [] ∧ IntKind.i64.wrap ((↑(32 * (N - 1)) : Int) + (↑(blen t) : Int)) = (↑(blen n) : Int) ∧ K (St.mk [(2, V.d (D.int IntKind.i64 (↑(blen n) : Int)))] [] 20)) (fun K => by kernel_rfl) ?_
    rw [← hN]
    have hlen : (u32s (dig n)).length = N := by simp [hN]
    refine ⟨by rw [w64] <;> omega, by rw [w64] <;> omega, by rw [w64] <;> omega, ⟨by omega, by omega, by omega⟩, ?_, len32_fn t h3, by rw [w64] <;> omega, awp_ret ⟨.inl rfl, retD rfl⟩⟩
    rw [Nat.mul_one, Int.toNat_natCast, List.getElem?_drop, Nat.add_zero, u32s_get, h1]; rfl

theorem uint64_fn (l : List Nat) (h : l.length ≤ 2 ^ 40) (hd : Dg l) : Fn Try.prog 239 [.d (du l)] [] (.tup [.d (.int .u64 (if val l < 18446744073709551616 then val l else 0 : Nat)), .d (.bool (decide (val l < 18446744073709551616)))]) [] := by
  refine fn0 (nt := 28) (res := [.tmp 2, .tmp 3]) Try.func239 rfl (by decide) rfl rfl rfl rfl ?_
  intro Cx hP hnt hl
  have ht := trim_fn l (by omega) hd
  have hle := dig_le hd
  obtain ⟨n, hn⟩ : ∃ n, n = val l := ⟨_, rfl⟩
  rw [← hn] at ht hle ⊢
  refine awp_sx prog_ok hP hnt [] [] [] [0] (by kernel_rfl) (G := fun K => K (St.mk [(0, V.d (du l))] [] 2)) (fun K => by kernel_rfl) ?_
  refine awp_sx prog_ok hP hnt [] [.val (.d (du (dig n)))] [] [0] (by kernel_rfl) (G := fun K => Fn Try.prog 212 [V.d (du l)] [] (V.d (du (dig n))) [] ∧ K (St.mk [(0, V.d (du (dig n)))] [] 5)) (fun K => by kernel_rfl) ?_
  refine ⟨ht, ?_⟩
  refine awp_seq_k fun K hK => ?_
  refine awp_sx prog_ok hP hnt [] [] [] [0, 7] (by kernel_rfl) (G := fun K => K (St.mk [(0, V.d (du (dig n))), (7, V.d (D.int IntKind.i64 (↑(dig n).length : Int)))] [] 7)) (fun K => by kernel_rfl) ?_
  refine awp_block ?_
  refine awp_sx prog_ok hP hnt [] [] [] [0, 7, 8] (by kernel_rfl) (G := fun K => K (St.mk [(0, V.d (du (dig n))), (7, V.d (D.int IntKind.i64 (↑(dig n).length : Int))), (8, V.d (D.bool ((↑(dig n).length : Int) == (0 : Int))))] [] 9)) (fun K => by kernel_rfl) ?_
  by_cases h0 : n = 0
  · subst h0
    rw [dig_zero]
    refine awp_cond (b := true) rfl (fun _ => ?_) nofun
    refine awp_sx prog_ok hP hnt [] [] [] [2, 3] (by kernel_rfl) (G := fun K => K (St.mk [(2, V.d (D.int IntKind.u64 (0 : Int))), (3, V.d (D.bool true))] [] 11)) (fun K => by kernel_rfl) ?_
    exact awp_ret ⟨.inl rfl, ret2 rfl rfl⟩
  by_cases h1 : n < 4294967296
  · have hdg : dig n = [n] := by rw [dig_pos h0, Nat.mod_eq_of_lt h1, Nat.div_eq_of_lt h1, dig_zero]
    rw [hdg]
    refine awp_cond (b := false) rfl nofun fun _ => ?_
    refine awp_sx prog_ok hP hnt [] [] [] [0, 7, 10] (by kernel_rfl) (G := fun K => K (St.mk [(0, V.d (du [n])), (7, V.d (D.int IntKind.i64 (↑[n].length : Int))), (10, V.d (D.bool ((↑[n].length : Int) == (1 : Int))))] [] 11)) (fun K => by kernel_rfl) ?_
    refine awp_cond (b := true) rfl (fun _ => ?_) nofun
    refine awp_sx prog_ok hP hnt [(15, .int .u64 n)] [] [] [2, 3] (by kernel_rfl) (G := fun K => ((0 : Int) ≤ (0 : Int) ∧ (0 : Int) < (↑[n].length : Int) ∧ 1 ≤ (u32s [n]).length) ∧ IntKind.u64.wrap (↑n : Int) = (↑n : Int) ∧ K (St.mk [(2, V.d (D.int IntKind.u64 (↑n : Int))), (3, V.d (D.bool true))] [] 17)) (fun K => by kernel_rfl) ?_
    rw [if_pos (by omega), show decide (n < 18446744073709551616) = true from decide_eq_true (by omega)]
    exact ⟨⟨by omega, by simp, by simp⟩, u64w (by omega) (by omega), awp_ret ⟨.inl rfl, ret2 rfl rfl⟩⟩
  by_cases h2 : n < 18446744073709551616
  · have hd1 : n / 4294967296 ≠ 0 := by omega
    have hd2 : n / 4294967296 < 4294967296 := by omega
    have hdg : dig n = [n % 4294967296, n / 4294967296] := by rw [dig_pos h0, dig_pos hd1, Nat.mod_eq_of_lt hd2, Nat.div_eq_of_lt hd2, dig_zero]
    rw [hdg]
    refine awp_cond (b := false) rfl nofun fun _ => ?_
    refine awp_sx prog_ok hP hnt [] [] [] [0, 7, 10] (by kernel_rfl) (G := fun K => K (St.mk [(0, V.d (du [n % 4294967296, n / 4294967296])), (7, V.d (D.int IntKind.i64 (↑[n % 4294967296, n / 4294967296].length : Int))), (10, V.d (D.bool ((↑[n % 4294967296, n / 4294967296].length : Int) == (1 : Int))))] [] 11)) (fun K => by kernel_rfl) ?_
    refine awp_cond (b := false) rfl nofun fun _ => ?_
    refine awp_sx prog_ok hP hnt [] [] [] [0, 16] (by kernel_rfl) (G := fun K => K (St.mk [(0, V.d (du [n % 4294967296, n / 4294967296])), (16, V.d (D.bool ((↑[n % 4294967296, n / 4294967296].length : Int) == (2 : Int))))] [] 13)) (fun K => by kernel_rfl) ?_
    refine awp_cond (b := true) rfl (fun _ => ?_) nofun
    have e1 := shl32 hd2
    have e2 := or_w hd2 (show n % 4294967296 < 4294967296 by omega)
    rw [show n / 4294967296 * 4294967296 + n % 4294967296 = n by omega] at e2
    refine awp_sx prog_ok hP hnt [(21, .int .u64 (n / 4294967296 : Nat)), (22, .int .u64 (n / 4294967296 * 4294967296 : Nat)), (26, .int .u64 (n % 4294967296 : Nat)), (27, .int .u64 n)] [] [] [2, 3] (by kernel_rfl) (G := fun K => ((0 : Int) ≤ (1 : Int) ∧ (1 : Int) < (↑[n % 4294967296, n / 4294967296].length : Int) ∧ 2 ≤ (u32s [n % 4294967296, n / 4294967296]).length) ∧ IntKind.u64.wrap (↑(n / 4294967296) : Int) = (↑(n / 4294967296) : Int) ∧ (0 : Int) ≤ (32 : Int) ∧ IntKind.u64.wrap ((↑(n / 4294967296) : Int) * (2 : Int) ^ min (Int.toNat (32 : Int)) IntKind.u64.bits) = (↑(n / 4294967296 * 4294967296) : Int) ∧ ((0 : Int) ≤ (0 : Int) ∧ (0 : Int) < (↑[n % 4294967296, n / 4294967296].length : Int) ∧ 1 ≤ (u32s [n % 4294967296, n / 4294967296]).length) ∧ IntKind.u64.wrap (↑(n % 4294967296) : Int) = (↑(n % 4294967296) : Int) ∧ IntKind.u64.wrap (↑(BitVec.ofInt IntKind.u64.bits (↑(n / 4294967296 * 4294967296) : Int) ||| BitVec.ofInt IntKind.u64.bits (↑(n % 4294967296) : Int)).toNat : Int) = (↑n : Int) ∧ K (St.mk [(2, V.d (D.int IntKind.u64 (↑n : Int))), (3, V.d (D.bool true))] [] 25)) (fun K => by kernel_rfl) ?_
    rw [if_pos (by omega), show decide (n < 18446744073709551616) = true from decide_eq_true (by omega)]
    exact ⟨⟨by omega, by simp, by simp⟩, u64w (by omega) (by omega), by omega, e1, ⟨by omega, by simp, by simp⟩, u64w (by omega) (by omega), e2, awp_ret ⟨.inl rfl, ret2 rfl rfl⟩⟩
  · have hlen : 3 ≤ (dig n).length := by
      rcases Nat.lt_or_ge (dig n).length 3 with h | h
      · have := dig_lt_of_len (n := n) (k := 2) (by omega)
        omega
      · exact h
    obtain ⟨N, hN⟩ : ∃ N, N = (dig n).length := ⟨_, rfl⟩
    rw [← hN]
    rw [← hN] at hlen
    refine awp_cond (b := ((N : Int) == 0)) rfl (fun e => by simp at e; omega) fun _ => ?_
    refine awp_sx prog_ok hP hnt [] [] [] [0, 7, 10] (by kernel_rfl) (G := fun K => K (St.mk [(0, V.d (du (dig n))), (7, V.d (D.int IntKind.i64 (↑N : Int))), (10, V.d (D.bool ((↑N : Int) == (1 : Int))))] [] 11)) (fun K => by kernel_rfl) ?_
    refine awp_cond (b := ((N : Int) == 1)) rfl (fun e => by simp at e; omega) fun _ => ?_
    refine awp_sx prog_ok hP hnt [] [] [] [0, 16] (by kernel_rfl) (G := fun K => K (St.mk [(0, V.d (du (dig n))), (16, V.d (D.bool ((↑N : Int) == (2 : Int))))] [] 13)) (fun K => by kernel_rfl) ?_
    refine awp_cond (b := ((N : Int) == 2)) rfl (fun e => by simp at e; omega) fun _ => awp_skip (hK _ ?_)
    refine awp_sx prog_ok hP hnt [] [] [] [2, 3] (by kernel_rfl) (G := fun K => K (St.mk [(2, V.d (D.int IntKind.u64 (0 : Int))), (3, V.d (D.bool false))] [] 15)) (fun K => by kernel_rfl) ?_
    rw [if_neg h2, show decide (n < 18446744073709551616) = false from decide_eq_false h2]
    exact awp_ret ⟨.inl rfl, ret2 rfl rfl⟩

/-- trim of digits that are the call's own -/
theorem trimO_fn (l : List Nat) (h : l.length ≤ 2 ^ 40) (hd : Dg l) (b : Nat) : Fn Try.prog 212 [.own b 0 l.length 1] [(b, ⟨u32s l, true⟩)] (.own b 0 (dig (val l)).length 1) [(b, ⟨u32s l, true⟩)] := by
  refine Fn.lend_ren ?_ b
  refine fn_intro prog_ok (nx := 1) (res := [.tmp 2]) Try.func212 rfl (by decide) (by show 1 ≤ 23; omega) rfl (by simp) (by simp [V.refsL, V.refs]) ?_
  intro Cx hP hnt0 hl
  have hnt : Cx.nt = 23 := hnt0
  simp only [List.map_cons, List.map_nil] at hl ⊢
  refine awp_sx prog_ok hP hnt [] [] [] [0] (by kernel_rfl) (G := fun K => K (St.mk [(0, V.own 0 0 l.length 1)] [(0, some (Blk.mk (u32s l) true))] 2)) (fun K => by kernel_rfl) ?_
  refine awp_sx prog_ok hP hnt [] [] [] [0, 3] (by kernel_rfl) (G := fun K => K (St.mk [(0, V.own 0 0 l.length 1), (3, V.d (D.int IntKind.i64 (↑l.length : Int)))] [(0, some (Blk.mk (u32s l) true))] 5)) (fun K => by kernel_rfl) ?_
  have hfin : ∀ n, n ≤ l.length → l.take n = dig (val l) → n = (dig (val l)).length := fun n hn e => by rw [← e, List.length_take]; omega
  refine awp_cut (ι := Unit) (fun _ => ⟨[(0, .own 0 0 l.length 1), (3, .d (.int .i64 (dig (val l)).length))], [(0, some ⟨u32s l, true⟩)], 1⟩) (fun _ => True) ?_ ?_
  · refine awp_block ?_
    refine awp_loop (ι := Nat) (fun n => ⟨[(0, .own 0 0 l.length 1), (3, .d (.int .i64 n))], [(0, some ⟨u32s l, true⟩)], 1⟩) (fun n => n ≤ l.length ∧ val (l.take n) = val l) (fun n => n) l.length [(0, 0)] ⟨Nat.le_refl _, by simp⟩ ?_ ?_
    · (constructor <;> simp [hl, envOk, memOk, conv, St.get, St.blk])
    intro n ⟨hn, ht⟩
    refine awp_seq_k fun K2 hK2 => ?_
    by_cases h0 : n = 0
    · subst h0
      refine awp_sx prog_ok hP hnt [(8, .bool false)] [] [] [0, 3, 15] (by kernel_rfl) (G := fun K => decide ((↑0 : Int) > (0 : Int)) = false ∧ K (St.mk [(0, V.own 0 0 l.length 1), (3, V.d (D.int IntKind.i64 (↑0 : Int))), (15, V.d (D.bool false))] [(0, some (Blk.mk (u32s l) true))] 11)) (fun K => by kernel_rfl) ?_
      refine ⟨rfl, awp_cond (b := false) rfl nofun fun _ => awp_exit ⟨(), [(0, 0)], trivial, ?_⟩⟩
      have := hfin 0 (by omega) (by rw [← ht]; simp [val, dig_zero])
      rw [← this]
      (constructor <;> simp [hl, envOk, memOk, conv, St.get, St.blk])
    · obtain ⟨x, h3⟩ := get_ex (l := l) (i := n - 1) (by omega)
      have h4 := val_take_succ h3
      rw [show n - 1 + 1 = n by omega] at h4
      refine awp_sx prog_ok hP hnt [(8, .bool true), (11, .int .i64 (n - 1 : Nat))] [] [some [.int .u32 x]] [0, 3, 15] (by kernel_rfl) (G := fun K => decide ((↑n : Int) > (0 : Int)) = true ∧ IntKind.i64.wrap ((↑n : Int) - (1 : Int)) = (↑(n - 1) : Int) ∧ ((0 : Int) ≤ (↑(n - 1) : Int) ∧ (↑(n - 1) : Int) < (↑l.length : Int)) ∧ (u32s l)[0 + (↑(n - 1) : Int).toNat * 1]? = some (D.int IntKind.u32 (↑x : Int)) ∧ K (St.mk [(0, V.own 0 0 l.length 1), (3, V.d (D.int IntKind.i64 (↑n : Int))), (15, V.d (D.bool ((↑x : Int) == (0 : Int))))] [(0, some (Blk.mk (u32s l) true))] 11)) (fun K => by kernel_rfl) ?_
      refine ⟨by simp; omega, by rw [w64] <;> omega, ⟨by omega, by omega⟩, by simp [h3], ?_⟩
      refine awp_cond (b := ((x : Int) == 0)) rfl (fun hb => awp_skip (hK2 _ ?_)) (fun hb => awp_exit ⟨(), [(0, 0)], trivial, ?_⟩)
      · refine awp_block ?_
        refine awp_x prog_ok hP hnt [(17, .int .i64 (n - 1 : Nat))] [] [] [0, 3] (by kernel_rfl) (G := fun K => IntKind.i64.wrap ((↑n : Int) - (1 : Int)) = (↑(n - 1) : Int) ∧ K (St.mk [(0, V.own 0 0 l.length 1), (3, V.d (D.int IntKind.i64 (↑(n - 1) : Int)))] [(0, some (Blk.mk (u32s l) true))] 14)) (fun K => by kernel_rfl) ?_
        refine ⟨by rw [w64] <;> omega, n - 1, [(0, 0)], ⟨⟨by omega, ?_⟩, by omega⟩, ?_⟩
        · simp at hb; subst hb; rw [← ht, h4]; simp
        · (constructor <;> simp [hl, envOk, memOk, conv, St.get, St.blk])
      · have := hfin n hn (by
          rw [← ht]
          refine can_dig (dg_take hd n) ?_
          simp at hb
          rw [List.getLast?_take, if_neg h0, h3]
          simpa using hb)
        rw [← this]
        (constructor <;> simp [hl, envOk, memOk, conv, St.get, St.blk])
  · intro _ _
    have hle := dig_le hd
    refine awp_seq_k fun K hK => ?_
    refine awp_sx prog_ok hP hnt [] [] [] [0, 3, 19] (by kernel_rfl) (G := fun K => K (St.mk [(0, V.own 0 0 l.length 1), (3, V.d (D.int IntKind.i64 (↑(dig (val l)).length : Int))), (19, V.d (D.bool ((↑(dig (val l)).length : Int) == (0 : Int))))] [(0, some (Blk.mk (u32s l) true))] 3)) (fun K => by kernel_rfl) ?_
    refine awp_cond rfl (fun hb => ?_) (fun hb => awp_skip (hK _ ?_))
    · refine awp_sx prog_ok hP hnt [] [] [] [2] (by kernel_rfl) (G := fun K => K (St.mk [(2, V.nil)] [(0, some (Blk.mk (u32s l) true))] 4)) (fun K => by kernel_rfl) ?_
      simp at hb
      rw [hb, List.length_nil]
      refine awp_weak [(0, 0)] ⟨[(2, .own 0 0 0 1)], [(0, some ⟨u32s l, true⟩)], 1⟩ ?_ (awp_ret ⟨.inl rfl, .inl ⟨rfl, rfl, trivial⟩⟩)
      (constructor <;> simp [hl, envOk, memOk, conv, St.get, St.blk])
    · refine awp_sx prog_ok hP hnt [] [] [] [2] (by kernel_rfl) (G := fun K => ((0 : Int) ≤ (↑(dig (val l)).length : Int) ∧ (↑(dig (val l)).length : Int) ≤ (↑l.length : Int)) ∧ K (St.mk [(2, V.own 0 0 (↑(dig (val l)).length : Int).toNat 1)] [(0, some (Blk.mk (u32s l) true))] 7)) (fun K => by kernel_rfl) ?_
      exact ⟨⟨by omega, by omega⟩, awp_ret ⟨.inl rfl, .inl ⟨rfl, rfl, trivial⟩⟩⟩

theorem set_rep (k x : Nat) (q : List Nat) : (List.replicate (k + 1) 0 ++ q).set k x = List.replicate k 0 ++ x :: q := by
  rw [List.replicate_succ', List.append_assoc, List.set_append_right _ _ (by simp)]
  simp

/-- division by one digit -/
theorem divsmall_fn (l : List Nat) (d : Nat) (h : l.length ≤ 2 ^ 40) (hd : Dg l) (h0 : 0 < d) (h1 : d < 4294967296) : Fn Try.prog 247 [.d (du l), .d (.int .u32 d)] []
    (.tup [.d (du (dig (val l / d))), .d (.int .u32 (val l % d : Nat)), .d (.bool true)]) [] := by
  refine fn0 (nt := 40) (res := [.tmp 4, .tmp 5, .tmp 6]) Try.func247 rfl (by decide) rfl rfl rfl rfl ?_
  intro Cx hP hnt hl
  have ht := trim_fn l (by omega) hd
  have hle := dig_le hd
  obtain ⟨n, hn⟩ : ∃ n, n = val l := ⟨_, rfl⟩
  rw [← hn] at ht hle ⊢
  refine awp_sx prog_ok hP hnt [] [] [] [0, 1] (by kernel_rfl) (G := fun K => K (St.mk [(0, V.d (du l)), (1, V.d (D.int IntKind.u32 (↑d : Int)))] [] 3)) (fun K => by kernel_rfl) ?_
  refine awp_seq_k fun K hK => ?_
  refine awp_sx prog_ok hP hnt [(11, .bool false)] [] [] [0, 1, 11] (by kernel_rfl) (G := fun K => ((↑d : Int) == (0 : Int)) = false ∧ K (St.mk [(0, V.d (du l)), (1, V.d (D.int IntKind.u32 (↑d : Int))), (11, V.d (D.bool false))] [] 5)) (fun K => by kernel_rfl) ?_
  refine ⟨by simp; omega, awp_cond (b := false) rfl nofun fun _ => awp_skip (hK _ ?_)⟩
  refine awp_sx prog_ok hP hnt [] [.val (.d (du (dig n)))] [] [0, 1] (by kernel_rfl) (G := fun K => Fn Try.prog 212 [V.d (du l)] [] (V.d (du (dig n))) [] ∧ K (St.mk [(0, V.d (du (dig n))), (1, V.d (D.int IntKind.u32 (↑d : Int)))] [] 8)) (fun K => by kernel_rfl) ?_
  refine ⟨ht, ?_⟩
  have hlen : (dig n).length ≤ 2 ^ 40 := by omega
  have hvd := val_dig n
  have hDg := dig_lt n
  obtain ⟨L, hL⟩ : ∃ L, L = dig n := ⟨_, rfl⟩
  rw [← hL] at hlen hvd hDg ⊢
  refine awp_sx prog_ok hP hnt [] [] [] [0, 1, 7] (by kernel_rfl) (G := fun K => ((↑L.length : Int) = (↑L.length : Int) ∧ (0 : Int) ≤ (↑L.length : Int) ∧ (↑L.length : Int) * (↑4 : Int) ≤ (2 : Int) ^ 47) ∧ K (St.mk [(0, V.d (du L)), (1, V.d (D.int IntKind.u32 (↑d : Int))), (7, V.own 10 0 (↑L.length : Int).toNat 1)] [(10, some (Blk.mk (zeros (↑L.length : Int).toNat (TI.mk (Kind.int IntKind.u32) 1 4 [D.int IntKind.u32 (0 : Int)]).zero) true))] 12)) (fun K => by kernel_rfl) ?_
  refine ⟨⟨rfl, by omega, by omega⟩, ?_⟩
  refine awp_sx prog_ok hP hnt [] [] [] [0, 1, 7, 8] (by kernel_rfl) (G := fun K => K (St.mk [(0, V.d (du L)), (1, V.d (D.int IntKind.u32 (↑d : Int))), (7, V.own 10 0 (↑L.length : Int).toNat 1), (8, V.d (D.int IntKind.u32 (0 : Int)))] [(10, some (Blk.mk (zeros (↑L.length : Int).toNat (TI.mk (Kind.int IntKind.u32) 1 4 [D.int IntKind.u32 (0 : Int)]).zero) true))] 13)) (fun K => by kernel_rfl) ?_
  refine awp_cut (ι := List Nat) (fun q => ⟨[(7, .own 0 0 L.length 1), (8, .d (.int .u32 (n % d : Nat)))], [(0, some ⟨u32s q, true⟩)], 1⟩) (fun q => q.length = L.length ∧ Dg q ∧ val q = n / d) ?_ ?_
  · refine awp_sx prog_ok hP hnt [(19, .int .i64 ((L.length : Int) - 1))] [] [] [0, 1, 7, 8, 9] (by kernel_rfl) (G := fun K => IntKind.i64.wrap ((↑L.length : Int) - (1 : Int)) = (↑L.length : Int) - (1 : Int) ∧ K (St.mk [(0, V.d (du L)), (1, V.d (D.int IntKind.u32 (↑d : Int))), (7, V.own 10 0 (↑L.length : Int).toNat 1), (8, V.d (D.int IntKind.u32 (0 : Int))), (9, V.d (D.int IntKind.i64 ((↑L.length : Int) - (1 : Int))))] [(10, some (Blk.mk (zeros (↑L.length : Int).toNat (TI.mk (Kind.int IntKind.u32) 1 4 [D.int IntKind.u32 (0 : Int)]).zero) true))] 17)) (fun K => by kernel_rfl) ?_
    refine ⟨by rw [w64] <;> omega, ?_⟩
    refine awp_block ?_
    refine awp_loop (ι := Nat × List Nat × Nat) (fun ⟨k, q, r⟩ => ⟨[(0, .d (du L)), (1, .d (.int .u32 d)), (7, .own 0 0 L.length 1), (8, .d (.int .u32 r)), (9, .d (.int .i64 ((k : Int) - 1)))], [(0, some ⟨u32s (List.replicate k 0 ++ q), true⟩)], 1⟩)
      (fun ⟨k, q, r⟩ => k + q.length = L.length ∧ Dg q ∧ r < d ∧ val q * d + r = val (L.drop k)) (fun ⟨k, q, r⟩ => k) (L.length, [], 0) [(0, 10)] ?_ ?_ ?_
    · simp [Dg, val]; omega
    · rw [Int.toNat_natCast]
      (constructor <;> simp [hl, envOk, memOk, conv, St.get, St.blk, zeros_u32])
    rintro ⟨k, q, r⟩ ⟨hk, hq, hr, hv⟩
    refine awp_seq_k fun K1 hK1 => ?_
    refine awp_sx prog_ok hP hnt [] [] [] [0, 1, 7, 8, 9, 21] (by kernel_rfl) (G := fun K => K (St.mk [(0, V.d (du L)), (1, V.d (D.int IntKind.u32 (↑d : Int))), (7, V.own 0 0 L.length 1), (8, V.d (D.int IntKind.u32 (↑r : Int))), (9, V.d (D.int IntKind.i64 ((↑k : Int) - (1 : Int)))), (21, V.d (D.bool (decide ((↑k : Int) - (1 : Int) ≥ (0 : Int)))))] [(0, some (Blk.mk (u32s (List.replicate k 0 ++ q)) true))] 3)) (fun K => by kernel_rfl) ?_
    refine awp_cond rfl (fun e => awp_skip (hK1 _ ?_)) (fun e => awp_exit ⟨q, [(0, 0)], ?_, ?_⟩)
    · simp at e
      obtain ⟨j, rfl⟩ : ∃ j, k = j + 1 := ⟨k - 1, by omega⟩
      obtain ⟨x, hx⟩ := get_ex (l := L) (i := j) (by omega)
      have hx32 := dg_get hDg hx
      have hdr : L.drop j = x :: L.drop (j + 1) := by
        rw [List.getElem?_eq_some_iff] at hx
        obtain ⟨h1, h2⟩ := hx
        rw [← h2]; exact List.drop_eq_getElem_cons h1
      have hdv := div32_fn r x d hr hx32 h1
      obtain ⟨g, hg⟩ : ∃ g, g = (r * 4294967296 + x) / d := ⟨_, rfl⟩
      obtain ⟨s, hs⟩ : ∃ s, s = (r * 4294967296 + x) % d := ⟨_, rfl⟩
      have hgs : g * d + s = r * 4294967296 + x := by rw [hg, hs, Nat.mul_comm]; exact Nat.div_add_mod _ _
      have hsd : s < d := by rw [hs]; exact Nat.mod_lt _ h0
      have hg32 : g < 4294967296 := by
        rw [hg, Nat.div_lt_iff_lt_mul h0]
        have : (r + 1) * 4294967296 ≤ d * 4294967296 := Nat.mul_le_mul_right _ hr
        omega
      rw [← hg, ← hs] at hdv
      have ej : ((j + 1 : Nat) : Int) - 1 = (j : Nat) := by omega
      rw [ej]
      refine awp_seq_k fun K2 hK2 => ?_
      refine awp_block ?_
      refine awp_x prog_ok hP hnt [] [.val (.tup [.d (.int .u32 g), .d (.int .u32 s)])] [some [.int .u32 x]] [0, 1, 7, 8, 9] (by kernel_rfl) (G := fun K => ((0 : Int) ≤ (↑j : Int) ∧ (↑j : Int) < (↑L.length : Int) ∧ ((↑j : Int).toNat + 1) * 1 ≤ (u32s L).length) ∧ (List.drop ((↑j : Int).toNat * 1) (u32s L))[0]? = some (D.int IntKind.u32 (↑x : Int)) ∧ Fn Try.prog 260 [V.d (D.int IntKind.u32 (↑r : Int)), V.d (D.int IntKind.u32 (↑x : Int)), V.d (D.int IntKind.u32 (↑d : Int))] [] (V.tup [V.d (D.int IntKind.u32 (↑g : Int)), V.d (D.int IntKind.u32 (↑s : Int))]) [] ∧ ((0 : Int) ≤ (↑j : Int) ∧ (↑j : Int) < (↑L.length : Int)) ∧ 0 + (↑j : Int).toNat * 1 + [D.int IntKind.u32 (↑g : Int)].length ≤ (u32s (List.replicate (j + 1) 0 ++ q)).length ∧ K (St.mk [(0, V.d (du L)), (1, V.d (D.int IntKind.u32 (↑d : Int))), (7, V.own 0 0 L.length 1), (8, V.d (D.int IntKind.u32 (↑s : Int))), (9, V.d (D.int IntKind.i64 (↑j : Int)))] [(0, some (Blk.mk (setCells (u32s (List.replicate (j + 1) 0 ++ q)) (0 + (↑j : Int).toNat * 1) [D.int IntKind.u32 (↑g : Int)]) true))] 18)) (fun K => by kernel_rfl) ?_
      refine ⟨⟨by omega, by omega, by simp; omega⟩, by simp [hx], hdv, ⟨by omega, by omega⟩, by simp, hK2 _ ?_⟩
      refine awp_x prog_ok hP hnt [(23, .int .i64 ((j : Int) - 1))] [] [] [0, 1, 7, 8, 9] (by kernel_rfl) (G := fun K => IntKind.i64.wrap ((↑j : Int) - (1 : Int)) = (↑j : Int) - (1 : Int) ∧ K (St.mk [(0, V.d (du L)), (1, V.d (D.int IntKind.u32 (↑d : Int))), (7, V.own 0 0 L.length 1), (8, V.d (D.int IntKind.u32 (↑s : Int))), (9, V.d (D.int IntKind.i64 ((↑j : Int) - (1 : Int))))] [(0, some (Blk.mk (setCells (u32s (List.replicate (j + 1) 0 ++ q)) (0 + (↑j : Int).toNat * 1) [D.int IntKind.u32 (↑g : Int)]) true))] 21)) (fun K => by kernel_rfl) ?_
      refine ⟨by rw [w64] <;> omega, (j, g :: q, s), [(0, 0)], ⟨⟨by simp; omega, ?_, hsd, ?_⟩, by show j < j + 1; omega⟩, ?_⟩
      · intro y hy
        rcases List.mem_cons.1 hy with rfl | hy
        · exact hg32
        · exact hq y hy
      · rw [hdr]
        show (g + 4294967296 * val q) * d + s = x + 4294967296 * val (L.drop (j + 1))
        rw [← hv]; grind
      · rw [Int.toNat_natCast, Nat.zero_add, Nat.mul_one, setCells_u32, set_rep]
        (constructor <;> simp [hl, envOk, memOk, conv, St.get, St.blk])
    · simp at e
      have hk0 : k = 0 := by omega
      subst hk0
      simp [hvd] at hv
      refine ⟨by omega, hq, ?_⟩
      rw [← hv, Nat.mul_comm, Nat.mul_add_div h0, Nat.div_eq_of_lt hr]; rfl
    · simp at e
      have hk0 : k = 0 := by omega
      subst hk0
      simp [hvd] at hv
      have : n % d = r := by rw [← hv, Nat.mul_comm, Nat.mul_add_mod, Nat.mod_eq_of_lt hr]
      rw [this]
      (constructor <;> simp [hl, envOk, memOk, conv, St.get, St.blk])
  intro q ⟨hq1, hq2, hq3⟩
  have ht2 := trim_fn q (by omega) hq2
  rw [hq3] at ht2
  refine awp_sx prog_ok hP hnt [] [.val (.d (du (dig (n / d))))] [] [4, 5, 6] (by kernel_rfl) (G := fun K => Fn Try.prog 212 [V.d (D.lst L.length (List.take (L.length * 1) (List.drop 0 (u32s q))))] [] (V.d (du (dig (n / d)))) [] ∧ K (St.mk [(4, V.d (du (dig (n / d)))), (5, V.d (D.int IntKind.u32 (↑(n % d) : Int))), (6, V.d (D.bool true))] [(0, some (Blk.mk (u32s q) false))] 7)) (fun K => by kernel_rfl) ?_
  rw [Nat.mul_one, own_du hq1]
  exact ⟨ht2, awp_ret ⟨.inl rfl, .inl ⟨rfl, trivial⟩⟩⟩
end Go.Abs

set_option linter.unusedVariables false
set_option linter.unusedSimpArgs false
namespace Go.Abs
open Go Go.Proofs
set_option maxRecDepth 100000

theorem take_dig : ∀ {q : List Nat}, Dg q → q.take (dig (val q)).length = dig (val q)
  | [], _ => by simp [val, dig_zero]
  | d :: q, h => by
    have ih := take_dig (q := q) (fun x hx => h x (List.mem_cons_of_mem _ hx))
    have hd := h d (List.mem_cons_self ..)
    by_cases h0 : d + 4294967296 * val q = 0
    · show List.take (dig (d + 4294967296 * val q)).length _ = dig (d + 4294967296 * val q)
      rw [h0, dig_zero]; rfl
    · show List.take (dig (d + 4294967296 * val q)).length _ = dig (d + 4294967296 * val q)
      rw [dig_cons hd h0, List.length_cons, List.take_succ_cons, ih]

theorem trimO' {l : List Nat} {v : Nat} (h : l.length ≤ 2 ^ 40) (hd : Dg l) (hv : val l = v) (b : Nat) : Fn Try.prog 212 [.own b 0 l.length 1] [(b, ⟨u32s l, true⟩)] (.own b 0 (dig v).length 1) [(b, ⟨u32s (dig v), true⟩)] := by
  subst hv
  have h5 := (trimO_fn l h hd b).out_take (dig (val l)).length
  rwa [u32s_take, take_dig hd] at h5

theorem shl_u32 {x r : Nat} (h : r ≤ 32) : IntKind.u32.wrap ((x : Int) * 2 ^ min (Int.toNat (r : Nat)) IntKind.u32.bits) = ((x % 2 ^ (32 - r)) * 2 ^ r : Nat) := by
  rw [show min (Int.toNat (r : Nat)) IntKind.u32.bits = r from by show min r 32 = r; omega, IntKind.wrap_u32]
  have h1 : (x * 2 ^ r) % 4294967296 = (x % 2 ^ (32 - r)) * 2 ^ r := by
    rw [show 4294967296 = 2 ^ (32 - r) * 2 ^ r from by rw [← Nat.pow_add, show 32 - r + r = 32 by omega], Nat.mul_mod_mul_right]
  rw [← h1]
  simp
theorem shr_u32 {x r : Nat} (h : r ≤ 32) : ((x : Int).fdiv (2 ^ min (Int.toNat (r : Nat)) IntKind.u32.bits)) = (x / 2 ^ r : Nat) := by
  rw [show min (Int.toNat (r : Nat)) IntKind.u32.bits = r from by show min r 32 = r; omega, fdivN]

theorem set_mid (A P R : List Nat) (x y : Nat) : (A ++ (P ++ x :: R)).set (A.length + P.length) y = A ++ (P ++ y :: R) := by
  rw [List.set_append_right _ _ (by omega), List.set_append_right _ _ (by omega)]
  simp
theorem get_mid (A P R : List Nat) (x : Nat) : (A ++ (P ++ x :: R))[A.length + P.length]? = some x := by
  rw [List.getElem?_append_right (by omega), List.getElem?_append_right (by omega)]
  simp
theorem dg_append {a b : List Nat} (ha : Dg a) (hb : Dg b) : Dg (a ++ b) := fun x hx => by
  rcases List.mem_append.1 hx with h | h
  · exact ha x h
  · exact hb x h
theorem dg_one {x : Nat} (h : x < 4294967296) : Dg [x] := fun y hy => by
  rw [List.mem_singleton] at hy; omega
theorem split32 (s : Nat) : 2 ^ s = 4294967296 ^ (s / 32) * 2 ^ (s % 32) := by
  rw [show (4294967296 : Nat) = 2 ^ 32 from rfl, ← Nat.pow_mul, ← Nat.pow_add, Nat.div_add_mod]

/-- one digit of a shift to the left -/
theorem shl_digit {x r low : Nat} (hx : x < 4294967296) (hr : r < 32) (hr0 : 0 < r) (hl : low < 2 ^ r) :
    (x % 2 ^ (32 - r)) * 2 ^ r ||| low = (x % 2 ^ (32 - r)) * 2 ^ r + low ∧ (x % 2 ^ (32 - r)) * 2 ^ r + low + 4294967296 * (x / 2 ^ (32 - r)) = x * 2 ^ r + low ∧
    (x % 2 ^ (32 - r)) * 2 ^ r + low < 4294967296 ∧ x / 2 ^ (32 - r) < 2 ^ r ∧ (x % 2 ^ (32 - r)) * 2 ^ r < 4294967296 := by
  have e : 4294967296 = 2 ^ (32 - r) * 2 ^ r := by rw [← Nat.pow_add, show 32 - r + r = 32 by omega]
  have p1 : 0 < 2 ^ (32 - r) := Nat.pow_pos (by omega)
  have p2 : 0 < 2 ^ r := Nat.pow_pos (by omega)
  have hm : x % 2 ^ (32 - r) < 2 ^ (32 - r) := Nat.mod_lt _ p1
  have hdm := Nat.div_add_mod x (2 ^ (32 - r))
  generalize x % 2 ^ (32 - r) = m at *
  have hq : x / 2 ^ (32 - r) < 2 ^ r := by rw [Nat.div_lt_iff_lt_mul p1, Nat.mul_comm, ← e]; exact hx
  generalize x / 2 ^ (32 - r) = q at *
  have hlt : m * 2 ^ r + 2 ^ r ≤ 4294967296 := by
    rw [e]
    have := Nat.mul_le_mul_right (2 ^ r) (show m + 1 ≤ 2 ^ (32 - r) from hm)
    rwa [Nat.add_mul, Nat.one_mul] at this
  refine ⟨or_lt hl, ?_, by omega, hq, by omega⟩
  rw [← hdm, e]
  generalize 2 ^ (32 - r) = a
  generalize 2 ^ r = b
  grind

theorem setCells_row : ∀ (P A Z : List Nat), P.length ≤ Z.length → setCells (u32s (A ++ Z)) A.length (u32s P) = u32s (A ++ (P ++ Z.drop P.length))
  | [], A, Z, _ => by simp [u32s, setCells]
  | p :: P, A, [], h => by simp at h
  | p :: P, A, z :: Z, h => by
    show setCells ((u32s (A ++ z :: Z)).set A.length (.int .u32 p)) (A.length + 1) (u32s P) = _
    rw [u32s_set, List.set_append_right _ _ (Nat.le_refl _), Nat.sub_self, List.set_cons_zero]
    have := setCells_row P (A ++ [p]) Z (by simpa using h)
    simp only [List.length_append, List.length_cons, List.length_nil, List.append_assoc, List.cons_append, List.nil_append] at this
    rw [this]; rfl

/-- shift to the left, as digits of the caller's own -/
theorem shlO_fn (l : List Nat) (s : Nat) (h : l.length ≤ 2 ^ 39) (hd : Dg l) (hs : s ≤ 16777216) (b : Nat) :
    Fn Try.prog 154 [.d (du l), .d (.int .i64 s)] [] (.own b 0 (dig (val l * 2 ^ s)).length 1) [(b, ⟨u32s (dig (val l * 2 ^ s)), true⟩)] := by
  refine Fn.out_ren ?_ b
  refine fn0o (nt := 61) (res := [.tmp 4]) Try.func154 rfl (by decide) rfl rfl rfl rfl ?_
  intro Cx hP hnt hl
  have ht := trim_fn l (by omega) hd
  have hle := dig_le hd
  obtain ⟨n, hn⟩ : ∃ n, n = val l := ⟨_, rfl⟩
  rw [← hn] at ht hle ⊢
  refine awp_sx prog_ok hP hnt [] [] [] [0, 1] (by kernel_rfl) (G := fun K => K (St.mk [(0, V.d (du l)), (1, V.d (D.int IntKind.i64 (↑s : Int)))] [] 1)) (fun K => by kernel_rfl) ?_
  refine awp_sx prog_ok hP hnt [] [.val (.d (du (dig n)))] [] [0, 1] (by kernel_rfl) (G := fun K => Fn Try.prog 212 [V.d (du l)] [] (V.d (du (dig n))) [] ∧ K (St.mk [(0, V.d (du (dig n))), (1, V.d (D.int IntKind.i64 (↑s : Int)))] [] 4)) (fun K => by kernel_rfl) ?_
  refine ⟨ht, ?_⟩
  refine awp_seq_k fun K hK => ?_
  refine awp_sx prog_ok hP hnt [] [] [] [0, 1, 15] (by kernel_rfl) (G := fun K => K (St.mk [(0, V.d (du (dig n))), (1, V.d (D.int IntKind.i64 (↑s : Int))), (15, V.d (D.bool ((↑(dig n).length : Int) == (0 : Int))))] [] 7)) (fun K => by kernel_rfl) ?_
  refine awp_cond rfl (fun e => ?_) (fun e => awp_skip (hK _ ?_))
  · simp at e
    rw [dig_nil] at e
    subst e
    rw [Nat.zero_mul, dig_zero]
    refine awp_sx prog_ok hP hnt [] [] [] [4] (by kernel_rfl) (G := fun K => K (St.mk [(4, V.nil)] [] 8)) (fun K => by kernel_rfl) ?_
    refine awp_weak [] ⟨[(4, .own 0 0 0 1)], [(0, some ⟨[], true⟩)], 1⟩ ?_ (awp_ret ⟨.inl rfl, .inl ⟨rfl, rfl, trivial⟩⟩)
    (constructor <;> simp [hl, envOk, memOk, conv, St.get, St.blk])
  simp at e
  rw [dig_nil] at e
  have hw : s / 32 ≤ 524288 := by omega
  have hr : s % 32 < 32 := by omega
  have h2s := split32 s
  have ew : (s : Int).tdiv 32 = (s / 32 : Nat) := rfl
  have er : (s : Int).tmod 32 = (s % 32 : Nat) := rfl
  obtain ⟨w, hw0⟩ : ∃ w, w = s / 32 := ⟨_, rfl⟩
  obtain ⟨r, hr0⟩ : ∃ r, r = s % 32 := ⟨_, rfl⟩
  rw [← hw0] at hw h2s ew
  rw [← hr0] at hr h2s er
  rw [h2s]
  have hlen : (dig n).length ≤ 2 ^ 39 := by omega
  have hvd := val_dig n
  have hDg := dig_lt n
  obtain ⟨L, hL⟩ : ∃ L, L = dig n := ⟨_, rfl⟩
  rw [← hL] at hlen hvd hDg ⊢
  refine awp_sx prog_ok hP hnt [(18, .int .i64 s)] [] [] [0, 1] (by kernel_rfl) (G := fun K => (if (16777216 : Int) < if (0 : Int) > (↑s : Int) then (0 : Int) else (↑s : Int) then (16777216 : Int) else if (0 : Int) > (↑s : Int) then (0 : Int) else (↑s : Int)) = (↑s : Int) ∧ K (St.mk [(0, V.d (du L)), (1, V.d (D.int IntKind.i64 (↑s : Int)))] [] 11)) (fun K => by kernel_rfl) ?_
  refine ⟨by rw [if_neg (show ¬ (0 : Int) > (s : Int) by omega), if_neg (by omega)], ?_⟩
  refine awp_sx prog_ok hP hnt [(20, .int .i64 w), (22, .int .i64 r)] [] [] [0, 5, 6] (by kernel_rfl) (G := fun K => (32 : Int) ≠ (0 : Int) ∧ IntKind.i64.wrap ((↑s : Int).tdiv (32 : Int)) = (↑w : Int) ∧ (32 : Int) ≠ (0 : Int) ∧ (↑s : Int).tmod (32 : Int) = (↑r : Int) ∧ K (St.mk [(0, V.d (du L)), (5, V.d (D.int IntKind.i64 (↑w : Int))), (6, V.d (D.int IntKind.i64 (↑r : Int)))] [] 17)) (fun K => by kernel_rfl) ?_
  refine ⟨by omega, by rw [ew, w64] <;> omega, by omega, er, ?_⟩
  refine awp_sx prog_ok hP hnt [(26, .int .i64 (w + L.length : Nat)), (27, .int .i64 (w + L.length + 1 : Nat))] [] [] [0, 5, 6, 7] (by kernel_rfl) (G := fun K => IntKind.i64.wrap ((↑w : Int) + (↑L.length : Int)) = (↑(w + L.length) : Int) ∧ IntKind.i64.wrap ((↑(w + L.length) : Int) + (1 : Int)) = (↑(w + L.length + 1) : Int) ∧ ((↑(w + L.length + 1) : Int) = (↑(w + L.length + 1) : Int) ∧ (0 : Int) ≤ (↑(w + L.length + 1) : Int) ∧ (↑(w + L.length + 1) : Int) * (↑4 : Int) ≤ (2 : Int) ^ 47) ∧ K (St.mk [(0, V.d (du L)), (5, V.d (D.int IntKind.i64 (↑w : Int))), (6, V.d (D.int IntKind.i64 (↑r : Int))), (7, V.own 22 0 (↑(w + L.length + 1) : Int).toNat 1)] [(22, some (Blk.mk (zeros (↑(w + L.length + 1) : Int).toNat (TI.mk (Kind.int IntKind.u32) 1 4 [D.int IntKind.u32 (0 : Int)]).zero) true))] 24)) (fun K => by kernel_rfl) ?_
  refine ⟨by rw [w64] <;> omega, by rw [w64] <;> omega, ⟨rfl, by omega, by omega⟩, ?_⟩
  refine awp_sx prog_ok hP hnt [] [] [] [5, 6, 7] (by kernel_rfl) (G := fun K => ((0 : Int) ≤ (↑w : Int) ∧ (↑w : Int) < (↑(↑(w + L.length + 1) : Int).toNat : Int)) ∧ (u32s L).length = L.length * 1 ∧ 0 + (↑w : Int).toNat * 1 + ((↑(w + L.length + 1) : Int).toNat - (↑w : Int).toNat) * 1 ≤ (zeros (↑(w + L.length + 1) : Int).toNat (TI.mk (Kind.int IntKind.u32) 1 4 [D.int IntKind.u32 (0 : Int)]).zero).length ∧ K (St.mk [(5, V.d (D.int IntKind.i64 (↑w : Int))), (6, V.d (D.int IntKind.i64 (↑r : Int))), (7, V.own 22 0 (↑(w + L.length + 1) : Int).toNat 1)] [(22, some (Blk.mk (setCells (zeros (↑(w + L.length + 1) : Int).toNat (TI.mk (Kind.int IntKind.u32) 1 4 [D.int IntKind.u32 (0 : Int)]).zero) (0 + (↑w : Int).toNat * 1) (List.take (min L.length ((↑(w + L.length + 1) : Int).toNat - (↑w : Int).toNat) * 1) (u32s L))) true))] 29)) (fun K => by kernel_rfl) ?_
  have hcells : setCells (zeros (w + L.length + 1) [.int .u32 0]) (0 + w * 1) (List.take (min L.length (w + L.length + 1 - w) * 1) (u32s L)) = u32s (List.replicate w 0 ++ (L ++ [0])) := by
    have h1 := setCells_row L (List.replicate w 0) (List.replicate (L.length + 1) 0) (by simp)
    rw [List.replicate_append_replicate, List.length_replicate, ← zeros_u32] at h1
    rw [show w + L.length + 1 = w + (L.length + 1) by omega, Nat.zero_add, Nat.mul_one, Nat.mul_one, List.take_of_length_le (by simp), h1]
    simp
  rw [Int.toNat_natCast, Int.toNat_natCast]
  refine ⟨⟨by omega, by omega⟩, by simp, ?_, ?_⟩
  · rw [zeros_u32]; simp; omega
  rw [hcells]
  refine awp_cut (ι := List Nat) (fun o => ⟨[(7, .own 0 0 o.length 1)], [(0, some ⟨u32s o, true⟩)], 1⟩) (fun o => o.length = w + L.length + 1 ∧ Dg o ∧ val o = n * (4294967296 ^ w * 2 ^ r)) ?_ ?_
  · have hDo : Dg (List.replicate w 0 ++ (L ++ [0])) := dg_append (dg_zeros w) (dg_append hDg (dg_one (by omega)))
    have hvL0 : val (L ++ [0]) = n := by rw [val_append, hvd]; simp [val]
    refine awp_sx prog_ok hP hnt [] [] [] [5, 6, 7, 35] (by kernel_rfl) (G := fun K => K (St.mk [(5, V.d (D.int IntKind.i64 (↑w : Int))), (6, V.d (D.int IntKind.i64 (↑r : Int))), (7, V.own 22 0 (w + L.length + 1) 1), (35, V.d (D.bool (decide ((↑r : Int) > (0 : Int)))))] [(22, some (Blk.mk (u32s (List.replicate w 0 ++ (L ++ [0]))) true))] 31)) (fun K => by kernel_rfl) ?_
    refine awp_cond rfl (fun e => ?_) (fun e => awp_skip ⟨_, [(0, 22)], ⟨?_, hDo, ?_⟩, ?_⟩)
    · simp at e
      refine awp_sx prog_ok hP hnt [] [] [] [5, 6, 7, 8] (by kernel_rfl) (G := fun K => K (St.mk [(5, V.d (D.int IntKind.i64 (↑w : Int))), (6, V.d (D.int IntKind.i64 (↑r : Int))), (7, V.own 22 0 (w + L.length + 1) 1), (8, V.d (D.int IntKind.u32 (0 : Int)))] [(22, some (Blk.mk (u32s (List.replicate w 0 ++ (L ++ [0]))) true))] 32)) (fun K => by kernel_rfl) ?_
      refine awp_sx prog_ok hP hnt [] [] [] [6, 7, 8, 9] (by kernel_rfl) (G := fun K => K (St.mk [(6, V.d (D.int IntKind.i64 (↑r : Int))), (7, V.own 22 0 (w + L.length + 1) 1), (8, V.d (D.int IntKind.u32 (0 : Int))), (9, V.d (D.int IntKind.i64 (↑w : Int)))] [(22, some (Blk.mk (u32s (List.replicate w 0 ++ (L ++ [0]))) true))] 34)) (fun K => by kernel_rfl) ?_
      refine awp_block ?_
      refine awp_loop (ι := List Nat × List Nat × Nat) (fun ⟨P, R, low⟩ => ⟨[(6, .d (.int .i64 r)), (7, .own 0 0 (w + L.length + 1) 1), (8, .d (.int .u32 low)), (9, .d (.int .i64 (w + P.length : Nat)))], [(0, some ⟨u32s (List.replicate w 0 ++ (P ++ R)), true⟩)], 1⟩)
        (fun ⟨P, R, low⟩ => P.length + R.length = L.length + 1 ∧ Dg P ∧ Dg R ∧ low < 2 ^ r ∧ val P + 4294967296 ^ P.length * (low + val R * 2 ^ r) = n * 2 ^ r) (fun ⟨P, R, low⟩ => R.length) ([], L ++ [0], 0) [(0, 22)] ?_ ?_ ?_
      · refine ⟨by simp, by simp [Dg], dg_append hDg (dg_one (by omega)), Nat.pow_pos (by omega), ?_⟩
        rw [hvL0]; simp [val]
      · (constructor <;> simp [hl, envOk, memOk, conv, St.get, St.blk])
      rintro ⟨P, R, low⟩ ⟨hl1, hP1, hR, hlow, hv⟩
      refine awp_seq_k fun K1 hK1 => ?_
      refine awp_sx prog_ok hP hnt [] [] [] [6, 7, 8, 9, 40] (by kernel_rfl) (G := fun K => K (St.mk [(6, V.d (D.int IntKind.i64 (↑r : Int))), (7, V.own 0 0 (w + L.length + 1) 1), (8, V.d (D.int IntKind.u32 (↑low : Int))), (9, V.d (D.int IntKind.i64 (↑(w + P.length) : Int))), (40, V.d (D.bool (decide ((↑(w + P.length) : Int) < (↑(w + L.length + 1) : Int)))))] [(0, some (Blk.mk (u32s (List.replicate w 0 ++ (P ++ R))) true))] 5)) (fun K => by kernel_rfl) ?_
      refine awp_cond rfl (fun e2 => awp_skip (hK1 _ ?_)) (fun e2 => awp_exit ⟨List.replicate w 0 ++ (P ++ R), [(0, 0)], ?_, ?_⟩)
      · simp at e2
        obtain ⟨x, R, rfl⟩ : ∃ x R', R = x :: R' := by
          cases R with
          | nil => simp at hl1; omega
          | cons x R' => exact ⟨x, R', rfl⟩
        have hx32 := hR x (by simp)
        simp only [List.length_cons] at hl1
        obtain ⟨d1, d2, d3, d4, d5⟩ := shl_digit hx32 hr e hlow
        obtain ⟨D, hD⟩ : ∃ D, D = (x % 2 ^ (32 - r)) * 2 ^ r := ⟨_, rfl⟩
        obtain ⟨q, hq⟩ : ∃ q, q = x / 2 ^ (32 - r) := ⟨_, rfl⟩
        have hsl := shl_u32 (x := x) (r := r) (by omega)
        have hsr := shr_u32 (x := x) (r := 32 - r) (by omega)
        rw [← hD] at d1 d2 d3 d5 hsl
        rw [← hq] at d2 d4 hsr
        have hor := or_u32 (x := D) (y := low) d5 (by have : 2 ^ r < 2 ^ 32 := Nat.pow_lt_pow_right (by omega) hr; omega)
        rw [d1] at hor
        have hget := get_mid (List.replicate w 0) P R x
        have hset := set_mid (List.replicate w 0) P R x (D + low)
        rw [List.length_replicate] at hget hset
        refine awp_seq_k fun K2 hK2 => ?_
        refine awp_block ?_
        refine awp_sx prog_ok hP hnt [] [] [some [.int .u32 x]] [6, 7, 8, 9, 10] (by kernel_rfl) (G := fun K => ((0 : Int) ≤ (↑(w + P.length) : Int) ∧ (↑(w + P.length) : Int) < (↑(w + L.length + 1) : Int)) ∧ (u32s (List.replicate w 0 ++ (P ++ x :: R)))[0 + (↑(w + P.length) : Int).toNat * 1]? = some (Abs.D.int IntKind.u32 (↑x : Int)) ∧ K (St.mk [(6, V.d (Abs.D.int IntKind.i64 (↑r : Int))), (7, V.own 0 0 (w + L.length + 1) 1), (8, V.d (Abs.D.int IntKind.u32 (↑low : Int))), (9, V.d (Abs.D.int IntKind.i64 (↑(w + P.length) : Int))), (10, V.d (Abs.D.int IntKind.u32 (↑x : Int)))] [(0, some (Blk.mk (u32s (List.replicate w 0 ++ (P ++ x :: R))) true))] 10)) (fun K => by kernel_rfl) ?_
        refine ⟨⟨by omega, by omega⟩, by rw [Int.toNat_natCast, Nat.zero_add, Nat.mul_one, u32s_get, hget]; rfl, ?_⟩
        refine awp_sx prog_ok hP hnt [(51, .int .u32 D), (53, .int .u32 (D + low : Nat))] [] [] [6, 7, 9, 10] (by kernel_rfl) (G := fun K => (0 : Int) ≤ (↑r : Int) ∧ IntKind.u32.wrap ((↑x : Int) * (2 : Int) ^ min (↑r : Int).toNat IntKind.u32.bits) = (↑D : Int) ∧ IntKind.u32.wrap (↑(BitVec.ofInt IntKind.u32.bits (↑D : Int) ||| BitVec.ofInt IntKind.u32.bits (↑low : Int)).toNat : Int) = (↑(D + low) : Int) ∧ ((0 : Int) ≤ (↑(w + P.length) : Int) ∧ (↑(w + P.length) : Int) < (↑(w + L.length + 1) : Int)) ∧ 0 + (↑(w + P.length) : Int).toNat * 1 + [Abs.D.int IntKind.u32 (↑(D + low) : Int)].length ≤ (u32s (List.replicate w 0 ++ (P ++ x :: R))).length ∧ K (St.mk [(6, V.d (Abs.D.int IntKind.i64 (↑r : Int))), (7, V.own 0 0 (w + L.length + 1) 1), (9, V.d (Abs.D.int IntKind.i64 (↑(w + P.length) : Int))), (10, V.d (Abs.D.int IntKind.u32 (↑x : Int)))] [(0, some (Blk.mk (setCells (u32s (List.replicate w 0 ++ (P ++ x :: R))) (0 + (↑(w + P.length) : Int).toNat * 1) [Abs.D.int IntKind.u32 (↑(D + low) : Int)]) true))] 19)) (fun K => by kernel_rfl) ?_
        refine ⟨by omega, hsl, hor, ⟨by omega, by omega⟩, by simp; omega, ?_⟩
        rw [Int.toNat_natCast, Nat.zero_add, Nat.mul_one, setCells_u32, hset]
        refine awp_x prog_ok hP hnt [(57, .int .i64 (32 - r : Nat)), (58, .int .u32 q)] [] [] [6, 7, 8, 9] (by kernel_rfl) (G := fun K => IntKind.i64.wrap ((32 : Int) - (↑r : Int)) = (↑(32 - r) : Int) ∧ (0 : Int) ≤ (↑(32 - r) : Int) ∧ (↑x : Int).fdiv ((2 : Int) ^ min (↑(32 - r) : Int).toNat IntKind.u32.bits) = (↑q : Int) ∧ K (St.mk [(6, V.d (Abs.D.int IntKind.i64 (↑r : Int))), (7, V.own 0 0 (w + L.length + 1) 1), (9, V.d (Abs.D.int IntKind.i64 (↑(w + P.length) : Int))), (8, V.d (Abs.D.int IntKind.u32 (↑q : Int)))] [(0, some (Blk.mk (u32s (List.replicate w 0 ++ (P ++ (D + low) :: R))) true))] 24)) (fun K => by kernel_rfl) ?_
        refine ⟨by rw [w64] <;> omega, by omega, hsr, hK2 _ ?_⟩
        refine awp_x prog_ok hP hnt [(42, .int .i64 (w + (P ++ [D + low]).length : Nat))] [] [] [6, 7, 8, 9] (by kernel_rfl) (G := fun K => IntKind.i64.wrap ((↑(w + P.length) : Int) + (1 : Int)) = (↑(w + (P ++ [D + low]).length) : Int) ∧ K (St.mk [(6, V.d (Abs.D.int IntKind.i64 (↑r : Int))), (7, V.own 0 0 (w + L.length + 1) 1), (9, V.d (Abs.D.int IntKind.i64 (↑(w + (P ++ [D + low]).length) : Int))), (8, V.d (Abs.D.int IntKind.u32 (↑q : Int)))] [(0, some (Blk.mk (u32s (List.replicate w 0 ++ (P ++ (D + low) :: R))) true))] 27)) (fun K => by kernel_rfl) ?_
        refine ⟨by rw [w64] <;> simp <;> omega, (P ++ [D + low], R, q), [(0, 0)], ⟨⟨by simp; omega, dg_append hP1 (dg_one d3), fun y hy => hR y (by simp [hy]), d4, ?_⟩, ?_⟩, ?_⟩
        · rw [val_append, List.length_append, List.length_singleton, Nat.pow_succ, ← hv]
          simp only [val]
          generalize 4294967296 ^ P.length = A
          generalize 2 ^ r = B at *
          grind
        · show R.length < (x :: R).length
          simp
        · rw [show (P ++ (D + low) :: R) = P ++ [D + low] ++ R by simp]
          (constructor <;> simp [hl, envOk, memOk, conv, St.get, St.blk])
      · simp at e2
        have hR0 : R = [] := List.length_eq_zero_iff.1 (by omega)
        subst hR0
        simp at hl1
        rw [List.append_nil]
        refine ⟨by simp; omega, dg_append (dg_zeros w) hP1, ?_⟩
        have hz : low = 0 := by
          have h1 : n < 4294967296 ^ L.length := by rw [← hvd]; exact val_lt hDg
          have h2 : n * 2 ^ r < 4294967296 ^ L.length * 4294967296 := by
            have h3 : 2 ^ r ≤ 4294967296 := by
              have := Nat.pow_le_pow_right (n := 2) (show 0 < 2 by omega) (show r ≤ 32 by omega)
              omega
            exact Nat.lt_of_lt_of_le (Nat.mul_lt_mul_of_pos_right h1 (Nat.pow_pos (by omega))) (Nat.mul_le_mul_left _ h3)
          rw [← hv, hl1, Nat.pow_succ] at h2
          simp only [val, Nat.zero_mul, Nat.add_zero] at h2
          rcases Nat.eq_zero_or_pos low with h | h
          · exact h
          · have := Nat.mul_le_mul_left (4294967296 ^ L.length * 4294967296) h
            omega
        subst hz
        simp only [val, Nat.zero_mul, Nat.add_zero, Nat.mul_zero] at hv
        rw [val_append, val_zeros, List.length_replicate, hv]
        grind
      · simp at e2
        have hR0 : R = [] := List.length_eq_zero_iff.1 (by omega)
        subst hR0
        simp at hl1
        have : (List.replicate w 0 ++ (P ++ [])).length = w + L.length + 1 := by simp; omega
        rw [this]
        (constructor <;> simp [hl, envOk, memOk, conv, St.get, St.blk])
    · simp; omega
    · simp at e
      rw [val_append, val_zeros, List.length_replicate, hvL0, e]
      simp [Nat.mul_comm]
    · have : (List.replicate w 0 ++ (L ++ [0])).length = w + L.length + 1 := by simp; omega
      rw [this]
      (constructor <;> simp [hl, envOk, memOk, conv, St.get, St.blk])
  intro o ⟨ho1, ho2, ho3⟩
  have ht2 := trimO' (by omega) ho2 ho3 0
  refine awp_sx prog_ok hP hnt [] [.lend (.own 0 0 (dig (n * (4294967296 ^ w * 2 ^ r))).length 1) [u32s (dig (n * (4294967296 ^ w * 2 ^ r)))]] [] [4] (by kernel_rfl) (G := fun K => (Blk.mk (u32s o) true).live = true ∧ Fn Try.prog 212 [V.own 0 0 o.length 1] [(0, Blk.mk (u32s o) true)] (V.own 0 0 (dig (n * (4294967296 ^ w * 2 ^ r))).length 1) [(0, Blk.mk (u32s (dig (n * (4294967296 ^ w * 2 ^ r)))) true)] ∧ K (St.mk [(4, V.own 0 0 (dig (n * (4294967296 ^ w * 2 ^ r))).length 1)] [(0, some (Blk.mk (u32s (dig (n * (4294967296 ^ w * 2 ^ r)))) true))] 4)) (fun K => by kernel_rfl) ?_
  exact ⟨rfl, ht2, awp_ret ⟨.inl rfl, .inl ⟨rfl, rfl, trivial⟩⟩⟩

/-- one digit of a shift to the right -/
theorem shr_digit {x y r Y : Nat} (hx : x < 4294967296) (hr : r < 32) (hy : y = Y % 4294967296) :
    (x / 2 ^ r ||| (y % 2 ^ (32 - (32 - r))) * 2 ^ (32 - r)) = x / 2 ^ r + (y % 2 ^ r) * 2 ^ (32 - r) ∧ (x / 2 ^ r + (y % 2 ^ r) * 2 ^ (32 - r)) + 4294967296 * (Y / 2 ^ r) = (x + 4294967296 * Y) / 2 ^ r ∧
    x / 2 ^ r + (y % 2 ^ r) * 2 ^ (32 - r) < 4294967296 ∧ (y % 2 ^ (32 - (32 - r))) * 2 ^ (32 - r) < 4294967296 := by
  have e : 4294967296 = 2 ^ r * 2 ^ (32 - r) := by rw [← Nat.pow_add, show r + (32 - r) = 32 by omega]
  have p1 : 0 < 2 ^ (32 - r) := Nat.pow_pos (by omega)
  have p2 : 0 < 2 ^ r := Nat.pow_pos (by omega)
  rw [show 32 - (32 - r) = r by omega]
  have hq : x / 2 ^ r < 2 ^ (32 - r) := by rw [Nat.div_lt_iff_lt_mul p2, Nat.mul_comm, ← e]; exact hx
  have hym : y % 2 ^ r = Y % 2 ^ r := by rw [hy, e, Nat.mod_mul_right_mod]
  rw [hym]
  have hm : Y % 2 ^ r < 2 ^ r := Nat.mod_lt _ p2
  have hdm := Nat.div_add_mod Y (2 ^ r)
  have hsum : (x + 4294967296 * Y) / 2 ^ r = x / 2 ^ r + 2 ^ (32 - r) * Y := by
    rw [e, Nat.mul_assoc, Nat.add_mul_div_left _ _ p2]
  rw [hsum]
  generalize Y % 2 ^ r = m at *
  generalize Y / 2 ^ r = t at *
  generalize x / 2 ^ r = q at *
  have hlt : m * 2 ^ (32 - r) + 2 ^ (32 - r) ≤ 4294967296 := by
    rw [e]
    have := Nat.mul_le_mul_right (2 ^ (32 - r)) (show m + 1 ≤ 2 ^ r from hm)
    rwa [Nat.add_mul, Nat.one_mul] at this
  refine ⟨by rw [Nat.or_comm, or_lt hq, Nat.add_comm], ?_, by omega, by omega⟩
  rw [← hdm, e]
  generalize 2 ^ (32 - r) = a
  generalize 2 ^ r = b
  grind

theorem val_head : ∀ (q : List Nat), Dg q → q.headD 0 = val q % 4294967296
  | [], _ => rfl
  | d :: q, h => by
    have := h d (by simp)
    show d = (d + 4294967296 * val q) % 4294967296
    omega
theorem val_drop {l : List Nat} (h : Dg l) (n : Nat) : val (l.drop n) = val l / 4294967296 ^ n := by
  have h1 := val_append (l.take n) (l.drop n)
  rw [List.take_append_drop] at h1
  have h2 := val_take_lt h n
  by_cases hn : n ≤ l.length
  · rw [List.length_take, Nat.min_eq_left hn] at h1
    rw [h1, Nat.add_mul_div_left _ _ (Nat.pow_pos (by omega)), Nat.div_eq_of_lt h2]; omega
  · rw [List.drop_of_length_le (by omega)]
    rw [Nat.div_eq_of_lt]
    · rfl
    · exact Nat.lt_of_lt_of_le (val_lt h) (Nat.pow_le_pow_right (by omega) (by omega))

theorem shr_fn (l : List Nat) (s : Nat) (h : l.length ≤ 2 ^ 39) (hd : Dg l) (hs : s ≤ 2 ^ 60) :
    Fn Try.prog 250 [.d (du l), .d (.int .i64 s)] [] (.d (du (dig (val l / 2 ^ s)))) [] := by
  refine fn0 (nt := 60) (res := [.tmp 4]) Try.func250 rfl (by decide) rfl rfl rfl rfl ?_
  intro Cx hP hnt hl
  have ht := trim_fn l (by omega) hd
  have hle := dig_le hd
  obtain ⟨n, hn⟩ : ∃ n, n = val l := ⟨_, rfl⟩
  rw [← hn] at ht hle ⊢
  have h2s := split32 s
  have ew : (s : Int).tdiv 32 = (s / 32 : Nat) := rfl
  have er : (s : Int).tmod 32 = (s % 32 : Nat) := rfl
  have hr : s % 32 < 32 := by omega
  have hw : s / 32 ≤ s := by omega
  obtain ⟨w, hw0⟩ : ∃ w, w = s / 32 := ⟨_, rfl⟩
  obtain ⟨r, hr0⟩ : ∃ r, r = s % 32 := ⟨_, rfl⟩
  rw [← hw0] at hw h2s ew
  rw [← hr0] at hr h2s er
  rw [h2s]
  have hlen : (dig n).length ≤ 2 ^ 39 := by omega
  have hvd := val_dig n
  have hDg := dig_lt n
  obtain ⟨L, hL⟩ : ∃ L, L = dig n := ⟨_, rfl⟩
  rw [← hL] at hlen hvd hDg ht
  refine awp_sx prog_ok hP hnt [] [] [] [0, 1] (by kernel_rfl) (G := fun K => K (St.mk [(0, V.d (du l)), (1, V.d (D.int IntKind.i64 (↑s : Int)))] [] 1)) (fun K => by kernel_rfl) ?_
  refine awp_sx prog_ok hP hnt [] [.val (.d (du L))] [] [0, 1] (by kernel_rfl) (G := fun K => Fn Try.prog 212 [V.d (du l)] [] (V.d (du L)) [] ∧ K (St.mk [(0, V.d (du L)), (1, V.d (D.int IntKind.i64 (↑s : Int)))] [] 4)) (fun K => by kernel_rfl) ?_
  refine ⟨ht, ?_⟩
  refine awp_sx prog_ok hP hnt [(13, .int .i64 s)] [] [] [0, 1] (by kernel_rfl) (G := fun K => (if (0 : Int) > (↑s : Int) then (0 : Int) else (↑s : Int)) = (↑s : Int) ∧ K (St.mk [(0, V.d (du L)), (1, V.d (D.int IntKind.i64 (↑s : Int)))] [] 7)) (fun K => by kernel_rfl) ?_
  refine ⟨by rw [if_neg (show ¬ (0 : Int) > (s : Int) by omega)], ?_⟩
  refine awp_sx prog_ok hP hnt [(15, .int .i64 w), (17, .int .i64 r)] [] [] [0, 5, 6] (by kernel_rfl) (G := fun K => (32 : Int) ≠ (0 : Int) ∧ IntKind.i64.wrap ((↑s : Int).tdiv (32 : Int)) = (↑w : Int) ∧ (32 : Int) ≠ (0 : Int) ∧ (↑s : Int).tmod (32 : Int) = (↑r : Int) ∧ K (St.mk [(0, V.d (du L)), (5, V.d (D.int IntKind.i64 (↑w : Int))), (6, V.d (D.int IntKind.i64 (↑r : Int)))] [] 13)) (fun K => by kernel_rfl) ?_
  refine ⟨by omega, by rw [ew, w64] <;> omega, by omega, er, ?_⟩
  refine awp_seq_k fun K hK => ?_
  refine awp_sx prog_ok hP hnt [] [] [] [0, 5, 6, 21] (by kernel_rfl) (G := fun K => K (St.mk [(0, V.d (du L)), (5, V.d (D.int IntKind.i64 (↑w : Int))), (6, V.d (D.int IntKind.i64 (↑r : Int))), (21, V.d (D.bool (decide ((↑w : Int) ≥ (↑L.length : Int)))))] [] 17)) (fun K => by kernel_rfl) ?_
  refine awp_cond rfl (fun e => ?_) (fun e => awp_skip (hK _ ?_))
  · simp at e
    have h0 : n / (4294967296 ^ w * 2 ^ r) = 0 := by
      rw [← Nat.div_div_eq_div_mul]
      have : n < 4294967296 ^ w := by
        rw [← hvd]
        exact Nat.lt_of_lt_of_le (val_lt hDg) (Nat.pow_le_pow_right (by omega) e)
      rw [Nat.div_eq_of_lt this, Nat.zero_div]
    rw [h0, dig_zero]
    refine awp_sx prog_ok hP hnt [] [] [] [4] (by kernel_rfl) (G := fun K => K (St.mk [(4, V.nil)] [] 18)) (fun K => by kernel_rfl) ?_
    exact awp_ret ⟨.inl rfl, retNil rfl⟩
  simp at e
  refine awp_sx prog_ok hP hnt [] [] [] [6, 7] (by kernel_rfl) (G := fun K => ((u32s L).length = L.length * 1 ∧ (0 : Int) ≤ (↑w : Int) ∧ (↑w : Int) ≤ (↑L.length : Int)) ∧ (List.drop ((↑w : Int).toNat * 1) (u32s L)).length = (L.length - (↑w : Int).toNat) * 1 ∧ (L.length - (↑w : Int).toNat) * 4 ≤ 2 ^ 47 ∧ K (St.mk [(6, V.d (D.int IntKind.i64 (↑r : Int))), (7, V.own 20 0 (L.length - (↑w : Int).toNat) 1)] [(20, some (Blk.mk (List.drop ((↑w : Int).toNat * 1) (u32s L)) true))] 22)) (fun K => by kernel_rfl) ?_
  obtain ⟨M, hM⟩ : ∃ M, M = L.drop w := ⟨_, rfl⟩
  have hMl : M.length = L.length - w := by rw [hM, List.length_drop]
  have hMd : Dg M := fun y hy => hDg y (List.mem_of_mem_drop (hM ▸ hy))
  have hMv : val M = n / 4294967296 ^ w := by rw [hM, val_drop hDg, hvd]
  rw [Int.toNat_natCast, Nat.mul_one w, u32s_drop, ← hM, ← hMl]
  refine ⟨⟨by simp, by omega, by omega⟩, by simp, by omega, ?_⟩
  rw [← Nat.div_div_eq_div_mul, ← hMv]
  refine awp_cut (ι := List Nat) (fun o => ⟨[(7, .own 0 0 o.length 1)], [(0, some ⟨u32s o, true⟩)], 1⟩) (fun o => o.length = M.length ∧ Dg o ∧ val o = val M / 2 ^ r) ?_ ?_
  · refine awp_sx prog_ok hP hnt [] [] [] [6, 7, 27] (by kernel_rfl) (G := fun K => K (St.mk [(6, V.d (D.int IntKind.i64 (↑r : Int))), (7, V.own 20 0 M.length 1), (27, V.d (D.bool (decide ((↑r : Int) > (0 : Int)))))] [(20, some (Blk.mk (u32s M) true))] 24)) (fun K => by kernel_rfl) ?_
    refine awp_cond rfl (fun e => ?_) (fun e => awp_skip ⟨M, [(0, 20)], ⟨rfl, hMd, ?_⟩, ?_⟩)
    · simp at e
      refine awp_sx prog_ok hP hnt [] [] [] [6, 7, 29, 30] (by kernel_rfl) (G := fun K => K (St.mk [(6, V.d (D.int IntKind.i64 (↑r : Int))), (7, V.own 20 0 M.length 1), (29, V.d (D.int IntKind.i64 (↑M.length : Int))), (30, V.d (D.int IntKind.i64 (0 : Int)))] [(20, some (Blk.mk (u32s M) true))] 27)) (fun K => by kernel_rfl) ?_
      refine awp_block ?_
      refine awp_loop (ι := List Nat × List Nat) (fun ⟨P, R⟩ => ⟨[(6, .d (.int .i64 r)), (7, .own 0 0 M.length 1), (29, .d (.int .i64 M.length)), (30, .d (.int .i64 P.length))], [(0, some ⟨u32s (P ++ R), true⟩)], 1⟩)
        (fun ⟨P, R⟩ => P.length + R.length = M.length ∧ Dg P ∧ Dg R ∧ val P + 4294967296 ^ P.length * (val R / 2 ^ r) = val M / 2 ^ r) (fun ⟨P, R⟩ => R.length) ([], M) [(0, 20)] ?_ ?_ ?_
      · exact ⟨by simp, by simp [Dg], hMd, by simp [val]⟩
      · (constructor <;> simp [hl, envOk, memOk, conv, St.get, St.blk])
      rintro ⟨P, R⟩ ⟨hl1, hP1, hR, hv⟩
      refine awp_sx prog_ok hP hnt [] [] [] [6, 7, 29, 30, 31] (by kernel_rfl) (G := fun K => K (St.mk [(6, V.d (D.int IntKind.i64 (↑r : Int))), (7, V.own 0 0 M.length 1), (29, V.d (D.int IntKind.i64 (↑M.length : Int))), (30, V.d (D.int IntKind.i64 (↑P.length : Int))), (31, V.d (D.bool (decide ((↑P.length : Int) < (↑M.length : Int)))))] [(0, some (Blk.mk (u32s (P ++ R)) true))] 2)) (fun K => by kernel_rfl) ?_
      refine awp_seq_k fun K1 hK1 => ?_
      refine awp_cond rfl (fun e2 => awp_skip (hK1 _ ?_)) (fun e2 => awp_exit ⟨P ++ R, [(0, 0)], ?_, ?_⟩)
      · simp at e2
        obtain ⟨x, R, rfl⟩ : ∃ x R', R = x :: R' := by
          cases R with
          | nil => simp at hl1; omega
          | cons x R' => exact ⟨x, R', rfl⟩
        have hx32 := hR x (by simp)
        have hR1 : Dg R := fun y hy => hR y (by simp [hy])
        simp only [List.length_cons] at hl1
        obtain ⟨d1, d2, d3, d4⟩ := shr_digit (x := x) (y := R.headD 0) (r := r) (Y := val R) hx32 hr (val_head R hR1)
        have hsl := shl_u32 (x := R.headD 0) (r := 32 - r) (by omega)
        rw [show 32 - (32 - r) = r by omega] at d1 d4 hsl
        have hsr := shr_u32 (x := x) (r := r) (by omega)
        obtain ⟨D, hD⟩ : ∃ D, D = (R.headD 0 % 2 ^ r) * 2 ^ (32 - r) := ⟨_, rfl⟩
        obtain ⟨q, hq⟩ : ∃ q, q = x / 2 ^ r := ⟨_, rfl⟩
        rw [← hD] at d1 d2 d3 d4 hsl
        rw [← hq] at d1 d2 d3 hsr
        have hor := or_u32 (x := q) (y := D) (by omega) d4
        rw [d1] at hor
        have hget := get_mid [] P R x
        have hset := set_mid [] P R x (q + D)
        simp only [List.nil_append, List.length_nil, Nat.zero_add] at hget hset
        refine awp_seq_k fun K2 hK2 => ?_
        refine awp_block ?_
        refine awp_sx prog_ok hP hnt [] [] [] [6, 7, 8, 29, 30] (by kernel_rfl) (G := fun K => K (St.mk [(6, V.d (Abs.D.int IntKind.i64 (↑r : Int))), (7, V.own 0 0 M.length 1), (29, V.d (Abs.D.int IntKind.i64 (↑M.length : Int))), (30, V.d (Abs.D.int IntKind.i64 (↑P.length : Int))), (8, V.d (Abs.D.int IntKind.i64 (↑P.length : Int)))] [(0, some (Blk.mk (u32s (P ++ x :: R)) true))] 4)) (fun K => by kernel_rfl) ?_
        refine awp_sx prog_ok hP hnt [] [] [] [6, 7, 8, 9, 29, 30] (by kernel_rfl) (G := fun K => K (St.mk [(6, V.d (Abs.D.int IntKind.i64 (↑r : Int))), (7, V.own 0 0 M.length 1), (29, V.d (Abs.D.int IntKind.i64 (↑M.length : Int))), (30, V.d (Abs.D.int IntKind.i64 (↑P.length : Int))), (8, V.d (Abs.D.int IntKind.i64 (↑P.length : Int))), (9, V.d (Abs.D.int IntKind.u32 (0 : Int)))] [(0, some (Blk.mk (u32s (P ++ x :: R)) true))] 5)) (fun K => by kernel_rfl) ?_
        refine awp_cut (ι := Unit) (fun _ => ⟨[(6, .d (.int .i64 r)), (7, .own 0 0 M.length 1), (8, .d (.int .i64 P.length)), (9, .d (.int .u32 D)), (29, .d (.int .i64 M.length)), (30, .d (.int .i64 P.length))], [(0, some ⟨u32s (P ++ x :: R), true⟩)], 1⟩) (fun _ => True) ?_ ?_
        · refine awp_sx prog_ok hP hnt [(34, .int .i64 (P.length + 1 : Nat))] [] [] [6, 7, 8, 9, 29, 30, 37] (by kernel_rfl) (G := fun K => IntKind.i64.wrap ((↑P.length : Int) + (1 : Int)) = (↑(P.length + 1) : Int) ∧ K (St.mk [(6, V.d (Abs.D.int IntKind.i64 (↑r : Int))), (7, V.own 0 0 M.length 1), (29, V.d (Abs.D.int IntKind.i64 (↑M.length : Int))), (30, V.d (Abs.D.int IntKind.i64 (↑P.length : Int))), (8, V.d (Abs.D.int IntKind.i64 (↑P.length : Int))), (9, V.d (Abs.D.int IntKind.u32 (0 : Int))), (37, V.d (Abs.D.bool (decide ((↑(P.length + 1) : Int) < (↑M.length : Int)))))] [(0, some (Blk.mk (u32s (P ++ x :: R)) true))] 10)) (fun K => by kernel_rfl) ?_
          refine ⟨by rw [w64] <;> omega, ?_⟩
          refine awp_cond rfl (fun e3 => ?_) (fun e3 => awp_skip ⟨(), [(0, 0)], trivial, ?_⟩)
          · simp at e3
            obtain ⟨y, R', rfl⟩ : ∃ y R', R = y :: R' := by
              cases R with
              | nil => simp at hl1; omega
              | cons y R' => exact ⟨y, R', rfl⟩
            have hget2 : (P ++ x :: y :: R')[P.length + 1]? = some y := by
              rw [List.getElem?_append_right (by omega), show P.length + 1 - P.length = 1 by omega]; rfl
            refine awp_x prog_ok hP hnt [(40, .int .i64 (P.length + 1 : Nat)), (44, .int .i64 (32 - r : Nat)), (45, .int .u32 D)] [] [some [.int .u32 y]] [6, 7, 8, 9, 29, 30] (by kernel_rfl) (G := fun K => IntKind.i64.wrap ((↑P.length : Int) + (1 : Int)) = (↑(P.length + 1) : Int) ∧ ((0 : Int) ≤ (↑(P.length + 1) : Int) ∧ (↑(P.length + 1) : Int) < (↑M.length : Int)) ∧ (u32s (P ++ x :: y :: R'))[0 + (↑(P.length + 1) : Int).toNat * 1]? = some (Abs.D.int IntKind.u32 (↑y : Int)) ∧ IntKind.i64.wrap ((32 : Int) - (↑r : Int)) = (↑(32 - r) : Int) ∧ (0 : Int) ≤ (↑(32 - r) : Int) ∧ IntKind.u32.wrap ((↑y : Int) * (2 : Int) ^ min (↑(32 - r) : Int).toNat IntKind.u32.bits) = (↑D : Int) ∧ K (St.mk [(6, V.d (Abs.D.int IntKind.i64 (↑r : Int))), (7, V.own 0 0 M.length 1), (29, V.d (Abs.D.int IntKind.i64 (↑M.length : Int))), (30, V.d (Abs.D.int IntKind.i64 (↑P.length : Int))), (8, V.d (Abs.D.int IntKind.i64 (↑P.length : Int))), (9, V.d (Abs.D.int IntKind.u32 (↑D : Int)))] [(0, some (Blk.mk (u32s (P ++ x :: y :: R')) true))] 19)) (fun K => by kernel_rfl) ?_
            refine ⟨by rw [w64] <;> omega, ⟨by omega, by omega⟩, by rw [Int.toNat_natCast, Nat.zero_add, Nat.mul_one, u32s_get, hget2]; rfl, by rw [w64] <;> omega, by omega, hsl, (), [(0, 0)], trivial, ?_⟩
            (constructor <;> simp [hl, envOk, memOk, conv, St.get, St.blk])
          · simp at e3
            have hRn : R = [] := List.length_eq_zero_iff.1 (by omega)
            subst hRn
            have hD0 : D = 0 := by rw [hD]; simp
            rw [hD0]
            (constructor <;> simp [hl, envOk, memOk, conv, St.get, St.blk])
        intro _ _
        refine awp_x prog_ok hP hnt [(53, .int .u32 q), (55, .int .u32 (q + D : Nat))] [] [some [.int .u32 x]] [6, 7, 29, 30] (by kernel_rfl) (G := fun K => ((0 : Int) ≤ (↑P.length : Int) ∧ (↑P.length : Int) < (↑M.length : Int)) ∧ (u32s (P ++ x :: R))[0 + (↑P.length : Int).toNat * 1]? = some (Abs.D.int IntKind.u32 (↑x : Int)) ∧ (0 : Int) ≤ (↑r : Int) ∧ (↑x : Int).fdiv ((2 : Int) ^ min (↑r : Int).toNat IntKind.u32.bits) = (↑q : Int) ∧ IntKind.u32.wrap (↑(BitVec.ofInt IntKind.u32.bits (↑q : Int) ||| BitVec.ofInt IntKind.u32.bits (↑D : Int)).toNat : Int) = (↑(q + D) : Int) ∧ ((0 : Int) ≤ (↑P.length : Int) ∧ (↑P.length : Int) < (↑M.length : Int)) ∧ 0 + (↑P.length : Int).toNat * 1 + [Abs.D.int IntKind.u32 (↑(q + D) : Int)].length ≤ (u32s (P ++ x :: R)).length ∧ K (St.mk [(6, V.d (Abs.D.int IntKind.i64 (↑r : Int))), (7, V.own 0 0 M.length 1), (29, V.d (Abs.D.int IntKind.i64 (↑M.length : Int))), (30, V.d (Abs.D.int IntKind.i64 (↑P.length : Int)))] [(0, some (Blk.mk (setCells (u32s (P ++ x :: R)) (0 + (↑P.length : Int).toNat * 1) [Abs.D.int IntKind.u32 (↑(q + D) : Int)]) true))] 13)) (fun K => by kernel_rfl) ?_
        refine ⟨⟨by omega, by omega⟩, by rw [Int.toNat_natCast, Nat.zero_add, Nat.mul_one, u32s_get, hget]; rfl, by omega, hsr, hor, ⟨by omega, by omega⟩, by simp, hK2 _ ?_⟩
        rw [Int.toNat_natCast, Nat.zero_add, Nat.mul_one, setCells_u32, hset]
        refine awp_x prog_ok hP hnt [(57, .int .i64 ((P ++ [q + D]).length : Nat))] [] [] [6, 7, 29, 30] (by kernel_rfl) (G := fun K => IntKind.i64.wrap ((↑P.length : Int) + (1 : Int)) = (↑(P ++ [q + D]).length : Int) ∧ K (St.mk [(6, V.d (Abs.D.int IntKind.i64 (↑r : Int))), (7, V.own 0 0 M.length 1), (29, V.d (Abs.D.int IntKind.i64 (↑M.length : Int))), (30, V.d (Abs.D.int IntKind.i64 (↑(P ++ [q + D]).length : Int)))] [(0, some (Blk.mk (u32s (P ++ (q + D) :: R)) true))] 15)) (fun K => by kernel_rfl) ?_
        refine ⟨by rw [List.length_append, List.length_singleton, w64] <;> omega, (P ++ [q + D], R), [(0, 0)], ⟨⟨by simp; omega, dg_append hP1 (dg_one d3), hR1, ?_⟩, ?_⟩, ?_⟩
        · have hvx : val (x :: R) = x + 4294967296 * val R := rfl
          rw [val_append, List.length_append, List.length_singleton, Nat.pow_succ, ← hv, hvx, ← d2]
          simp only [val]
          generalize 4294967296 ^ P.length = A
          grind
        · show R.length < (x :: R).length
          simp
        · rw [show (P ++ (q + D) :: R) = P ++ [q + D] ++ R by simp]
          (constructor <;> simp [hl, envOk, memOk, conv, St.get, St.blk])
      · simp at e2
        have hR0 : R = [] := List.length_eq_zero_iff.1 (by omega)
        subst hR0
        simp [val] at hl1 hv
        rw [List.append_nil]
        exact ⟨hl1, hP1, hv⟩
      · have : (P ++ R).length = M.length := by simp; omega
        rw [this]
        (constructor <;> simp [hl, envOk, memOk, conv, St.get, St.blk])
    · simp at e
      rw [e, Nat.pow_zero, Nat.div_one]
    · (constructor <;> simp [hl, envOk, memOk, conv, St.get, St.blk])
  intro o ⟨ho1, ho2, ho3⟩
  have ht2 := trim_fn o (by omega) ho2
  rw [ho3] at ht2
  refine awp_sx prog_ok hP hnt [] [.val (.d (du (dig (val M / 2 ^ r))))] [] [4] (by kernel_rfl) (G := fun K => Fn Try.prog 212 [V.d (D.lst o.length (List.take (o.length * 1) (List.drop 0 (u32s o))))] [] (V.d (du (dig (val M / 2 ^ r)))) [] ∧ K (St.mk [(4, V.d (du (dig (val M / 2 ^ r))))] [(0, some (Blk.mk (u32s o) false))] 4)) (fun K => by kernel_rfl) ?_
  rw [Nat.mul_one, own_du rfl]
  exact ⟨ht2, awp_ret ⟨.inl rfl, retD rfl⟩⟩
end Go.Abs

set_option linter.unusedVariables false
set_option linter.unusedSimpArgs false
namespace Go.Abs
open Go
set_option maxRecDepth 100000

/-! ### The guess of a digit: U = X + E*M*W3, V = Y + M*(t*B + x) -/
structure Gs (U V E M t x u0 u1 u2 : Nat) : Prop where
  hU : ∃ X, U = X + E * M * ((u0 * 4294967296 + u1) * 4294967296 + u2) ∧ X < E * M
  hV : ∃ Y, V = Y + M * (t * 4294967296 + x) ∧ Y < M
  lt : U < V * (4294967296 * E)
  t0 : 0 < t
  tb : t < 4294967296
  xb : x < 4294967296
  u0b : u0 < 4294967296
  u1b : u1 < 4294967296
  u2b : u2 < 4294967296

variable {U V E M t x u0 u1 u2 g r : Nat}

theorem Gs.up (h : Gs U V E M t x u0 u1 u2) {a : Nat} (ha : (u0 * 4294967296 + u1) * 4294967296 + u2 < a * (t * 4294967296 + x)) : U < a * V * E := by
  obtain ⟨X, h1, h2⟩ := h.hU
  obtain ⟨Y, h3, h4⟩ := h.hV
  obtain ⟨W, hW⟩ : ∃ W, W = (u0 * 4294967296 + u1) * 4294967296 + u2 := ⟨_, rfl⟩
  obtain ⟨V2, hV2⟩ : ∃ V2, V2 = t * 4294967296 + x := ⟨_, rfl⟩
  rw [← hW] at h1 ha
  rw [← hV2] at h3 ha
  clear hW hV2
  have e1 : E * M * (W + 1) ≤ E * M * (a * V2) := Nat.mul_le_mul_left _ ha
  have e2 : E * M * (a * V2) ≤ a * V * E := by
    have e3 : M * V2 ≤ V := by omega
    have e4 := Nat.mul_le_mul_left (a * E) e3
    have e5 : a * E * (M * V2) = E * M * (a * V2) := by grind
    have e6 : a * E * V = a * V * E := by grind
    omega
  rw [Nat.mul_add, Nat.mul_one] at e1
  omega

theorem Gs.init (h : Gs U V E M t x u0 u1 u2) (hg : g * t + r = u0 * 4294967296 + u1) (hr : r < t) : U < (g + 1) * V * E := by
  refine h.up ?_
  have := h.u2b
  have e : (g + 1) * (t * 4294967296 + x) = (g * t + t) * 4294967296 + (g + 1) * x := by grind
  have e2 : (u0 * 4294967296 + u1 + 1) * 4294967296 ≤ (g * t + t) * 4294967296 := Nat.mul_le_mul_right _ (by omega)
  rw [e]
  generalize (g + 1) * x = z
  omega

theorem Gs.dec1 (h : Gs U V E M t x u0 u1 u2) (hg : 4294967296 ≤ g) : U < g * V * E := by
  have := h.lt
  have e := Nat.mul_le_mul_right (V * E) hg
  have e1 : V * (4294967296 * E) = 4294967296 * (V * E) := by grind
  have e2 : g * (V * E) = g * V * E := by grind
  omega

theorem Gs.dec2 (h : Gs U V E M t x u0 u1 u2) (hg : g * t + r = u0 * 4294967296 + u1) (hc : r * 4294967296 + u2 < g * x) : U < g * V * E := by
  refine h.up ?_
  have e : g * (t * 4294967296 + x) = g * t * 4294967296 + g * x := by grind
  rw [e]
  rw [← hg, Nat.add_mul, Nat.add_assoc]
  exact Nat.add_lt_add_left hc _

theorem Gs.u0t (h : Gs U V E M t x u0 u1 u2) : u0 ≤ t := by
  rcases Nat.lt_or_ge t u0 with hlt | hge
  · exfalso
    obtain ⟨X, h1, h2⟩ := h.hU
    obtain ⟨Y, h3, h4⟩ := h.hV
    have := h.lt
    have hE : 0 < E := by
      rcases Nat.eq_zero_or_pos E with h0 | h0
      · subst h0; simp at h2
      · exact h0
    have hx := h.xb
    have e1 : V < M * ((t + 1) * 4294967296) := by
      have : M * (t * 4294967296 + x + 1) ≤ M * ((t + 1) * 4294967296) := Nat.mul_le_mul_left _ (by omega)
      rw [Nat.mul_add, Nat.mul_one] at this
      omega
    have e2 : V * (4294967296 * E) < M * ((t + 1) * 4294967296) * (4294967296 * E) := Nat.mul_lt_mul_of_pos_right e1 (by omega)
    have e3 : E * M * ((t + 1) * 4294967296 * 4294967296) ≤ E * M * ((u0 * 4294967296 + u1) * 4294967296 + u2) := Nat.mul_le_mul_left _ (by omega)
    have e4 : M * ((t + 1) * 4294967296) * (4294967296 * E) = E * M * ((t + 1) * 4294967296 * 4294967296) := by grind
    omega
  · exact hge

theorem Gs.brk (h : Gs U V E M t x u0 u1 u2) (hg : g * t + r = u0 * 4294967296 + u1) (hr : 4294967296 ≤ r) : g < 4294967296 ∧ g * x ≤ r * 4294967296 + u2 := by
  have h0 := h.u0t
  have h1 := h.u1b
  have ht := h.t0
  have hx := h.xb
  have hglt : g < 4294967296 := by
    rcases Nat.lt_or_ge g 4294967296 with h | h
    · exact h
    · exfalso
      have := Nat.mul_le_mul_right t h
      omega
  refine ⟨hglt, ?_⟩
  have := Nat.mul_le_mul (Nat.le_of_lt hglt) (Nat.le_of_lt hx)
  omega

theorem Gs.fin (h : Gs U V E M t x u0 u1 u2) (hg : g * t + r = u0 * 4294967296 + u1) (hc : g * x ≤ r * 4294967296 + u2) (hgb : g < 4294967296) : g * V * E < U + V * E := by
  obtain ⟨X, h1, h2⟩ := h.hU
  obtain ⟨Y, h3, h4⟩ := h.hV
  have ht := h.t0
  have hM : 0 < M := by omega
  have hE : 0 < E := by
    rcases Nat.eq_zero_or_pos E with h0 | h0
    · subst h0; simp at h2
    · exact h0
  have e1 : g * (t * 4294967296 + x) ≤ (u0 * 4294967296 + u1) * 4294967296 + u2 := by
    have : g * (t * 4294967296 + x) = g * t * 4294967296 + g * x := by grind
    rw [this, ← hg]
    obtain ⟨z, hz⟩ : ∃ z, z = g * t := ⟨_, rfl⟩
    rw [← hz]
    omega
  obtain ⟨W, hW⟩ : ∃ W, W = (u0 * 4294967296 + u1) * 4294967296 + u2 := ⟨_, rfl⟩
  rw [← hW] at h1 e1
  clear hW
  have e2 : M * 4294967296 ≤ V := by
    have : M * 4294967296 ≤ M * (t * 4294967296 + x) := Nat.mul_le_mul_left _ (by omega)
    omega
  have e3 : g * Y < 4294967296 * M := Nat.mul_lt_mul'' hgb h4
  have e4 : g * V < M * W + V := by
    have : M * (g * (t * 4294967296 + x)) ≤ M * W := Nat.mul_le_mul_left _ e1
    have e5 : g * V = g * Y + M * (g * (t * 4294967296 + x)) := by rw [h3]; grind
    omega
  have e6 := Nat.mul_lt_mul_of_pos_right e4 hE
  have e7 : (M * W + V) * E = E * M * W + V * E := by grind
  omega

/-! ### Multiply and subtract -/
/-- one word: y - w - pl in 64 bits -/
theorem sub_word {y w pl : Nat} {T : Int} (hy : y < 4294967296) (hw : w ≤ 1) (hpl : pl < 4294967296) (hT : T = (y : Int) - w - pl) :
    ∃ d f : Nat, (T % 18446744073709551616 % 4294967296 = d) ∧ T % 18446744073709551616 / 9223372036854775808 = f ∧ f ≤ 1 ∧ d < 4294967296 ∧ d + w + pl = y + 4294967296 * f := by
  refine ⟨(T % 18446744073709551616 % 4294967296).toNat, (T % 18446744073709551616 / 9223372036854775808).toNat, by omega, by omega, by omega, by omega, by omega⟩

theorem msub_step {o O v : List Nat} {j i g c w d f x y pl c' : Nat} (ho : j + i < o.length) (hy : O[j + i]? = some y) (hx : v[i]? = some x)
    (hp : g * x + c = c' * 4294967296 + pl) (hd : d + w + pl = y + 4294967296 * f)
    (h : val (o.take (j + i)) + 4294967296 ^ j * (g * val (v.take i)) = val (O.take (j + i)) + 4294967296 ^ (j + i) * (c + w)) :
    val ((o.set (j + i) d).take (j + i + 1)) + 4294967296 ^ j * (g * val (v.take (i + 1))) = val (O.take (j + i + 1)) + 4294967296 ^ (j + i + 1) * (c' + f) := by
  rw [val_set ho, val_take_succ hy, val_take_succ hx, Nat.pow_succ]
  have e2 : 4294967296 ^ (j + i) = 4294967296 ^ j * 4294967296 ^ i := Nat.pow_add _ _ _
  generalize 4294967296 ^ j = A at *
  generalize 4294967296 ^ i = B at *
  generalize 4294967296 ^ (j + i) = C at *
  have : C * (g * x + c) = C * (c' * 4294967296 + pl) := by rw [hp]
  have : C * (d + w + pl) = C * (y + 4294967296 * f) := by rw [hd]
  grind

theorem addb_step {o O v : List Nat} {j i c d f x y : Nat} (ho : j + i < o.length) (hy : O[j + i]? = some y) (hx : v[i]? = some x)
    (hd : y + x + c = d + 4294967296 * f)
    (h : val (o.take (j + i)) + 4294967296 ^ (j + i) * c = val (O.take (j + i)) + 4294967296 ^ j * val (v.take i)) :
    val ((o.set (j + i) d).take (j + i + 1)) + 4294967296 ^ (j + i + 1) * f = val (O.take (j + i + 1)) + 4294967296 ^ j * val (v.take (i + 1)) := by
  rw [val_set ho, val_take_succ hy, val_take_succ hx, Nat.pow_succ]
  have e2 : 4294967296 ^ (j + i) = 4294967296 ^ j * 4294967296 ^ i := Nat.pow_add _ _ _
  generalize 4294967296 ^ j = A at *
  generalize 4294967296 ^ i = B at *
  generalize 4294967296 ^ (j + i) = C at *
  have : C * (y + x + c) = C * (d + 4294967296 * f) := by rw [hd]
  grind

/-- what the digits of the top say -/
theorem gs_of {u v : List Nat} {j m t x u0 u1 u2 : Nat} (hu : Dg u) (hv : Dg v) (hvl : v.length = m + 2) (ht : v[m + 1]? = some t) (hx : v[m]? = some x)
    (h0 : u[j + m + 2]? = some u0) (h1 : u[j + m + 1]? = some u1) (h2 : u[j + m]? = some u2) (hUt : val (u.take (j + m + 3)) = val u) (hlt : val u < val v * (4294967296 * 4294967296 ^ j)) (t0 : 0 < t) :
    Gs (val u) (val v) (4294967296 ^ j) (4294967296 ^ m) t x u0 u1 u2 where
  hU := by
    refine ⟨val (u.take (j + m)), ?_, by rw [← Nat.pow_add]; exact val_take_lt hu _⟩
    have e1 : 4294967296 ^ (j + m + 2) = 4294967296 ^ j * 4294967296 ^ m * 4294967296 * 4294967296 := by rw [show j + m + 2 = j + m + 1 + 1 by omega, Nat.pow_succ, Nat.pow_succ, Nat.pow_add]
    have e2 : 4294967296 ^ (j + m + 1) = 4294967296 ^ j * 4294967296 ^ m * 4294967296 := by rw [Nat.pow_succ, Nat.pow_add]
    have e3 : 4294967296 ^ (j + m) = 4294967296 ^ j * 4294967296 ^ m := Nat.pow_add _ _ _
    rw [← hUt, val_take_succ h0, val_take_succ h1, val_take_succ h2, e1, e2, e3]
    generalize 4294967296 ^ j = A
    generalize 4294967296 ^ m = B
    grind
  hV := by
    refine ⟨val (v.take m), ?_, val_take_lt hv _⟩
    have : val v = val (v.take (m + 2)) := by rw [List.take_of_length_le (by omega)]
    rw [this, val_take_succ ht, val_take_succ hx, Nat.pow_succ]
    generalize 4294967296 ^ m = B
    grind
  lt := hlt
  t0 := t0
  tb := dg_get hv ht
  xb := dg_get hv hx
  u0b := dg_get hu h0
  u1b := dg_get hu h1
  u2b := dg_get hu h2
end Go.Abs

set_option linter.unusedVariables false
set_option linter.unusedSimpArgs false
namespace Go.Abs
open Go Go.Proofs
set_option maxRecDepth 100000

/-- a part of a body -/
def part' : List Bool → Code → Code
  | [], c => c
  | false :: ps, .seq a _ => part' ps a
  | true :: ps, .seq _ b => part' ps b
  | _ :: ps, .block _ c => part' ps c
  | _ :: ps, .loop c => part' ps c
  | _ :: ps, .scope c => part' ps c
  | false :: ps, .cond _ a _ => part' ps a
  | true :: ps, .cond _ _ b => part' ps b
  | _, c => c

noncomputable abbrev longBody : Code := part' [true, true, true, true, true, true, true, true, true, true, true, true, false, true, true, true, true, false, true] (Try.f240.body.getD .skip)
noncomputable abbrev longGuess : Code := part' [true, false] longBody
noncomputable abbrev longSub : Code := part' [true, true, true, false] longBody
noncomputable abbrev longBack : Code := part' [true, true, true, true, true, true, true, true, true, true, false] longBody

noncomputable def longSt (m k0 s : Nat) (v u q : List Nat) (t x j : Nat) (more : List (Nat × V)) : St :=
  ⟨[(4, .own 1 0 k0 1), (6, .d (.int .i64 (m + 2 : Nat))), (10, .d (.int .i64 s)), (11, .d (du v)), (12, .own 0 0 (k0 + (m + 2)) 1), (13, .d (.int .u64 t)), (14, .d (.int .u64 x)), (15, .d (.int .i64 j))] ++ more, [(0, some ⟨u32s u, true⟩), (1, some ⟨u32s q, true⟩)], 2⟩

theorem guess_loop {Cx : Ctx} (hP : Cx.P = Try.prog) (hnt : Cx.nt = 251) (hl : Cx.lids = []) {Q : Exit → St → Prop} {m k0 s : Nat} {v u q : List Nat} {t x j V E M U0 U1 U2 gg rr : Nat}
    (hG : Gs (val u) V E M t x U0 U1 U2) (hjk : j < k0) (hul : u.length = k0 + (m + 2)) (hmk : k0 + (m + 2) ≤ 2 ^ 40)
    (g2 : u[j + m]? = some U2) (hgN : gg * t + rr = U0 * 4294967296 + U1) (hrt : rr < t) :
    AWP Cx longGuess (longSt m k0 s v u q t x j [(16, .d (.int .u64 gg)), (17, .d (.int .u64 rr))])
      (thenQ (fun s' => ∃ (g : Nat) (ρ : List (Nat × Nat)), (g < 4294967296 ∧ val u < (g + 1) * V * E ∧ g * V * E < val u + V * E) ∧ Weak Cx.lids ρ s' (longSt m k0 s v u q t x j [(16, .d (.int .u64 g))])) Q) := by
  have hU0 := hG.u0b
  have hU1 := hG.u1b
  have hU2 := hG.u2b
  have htb := hG.tb
  have hxb := hG.xb
  have ht0 := hG.t0
  have hut := hG.u0t
  have gu2 : (u32s u)[0 + ((j + m : Nat) : Int).toNat * 1]? = some (D.int .u32 U2) := by rw [Int.toNat_natCast, Nat.zero_add, Nat.mul_one, u32s_get, g2]; rfl
  have hj2 : IntKind.i64.wrap ((j : Int) + (m + 2 : Nat)) = (j + m + 2 : Nat) := by rw [w64] <;> omega
  have hj0 : IntKind.i64.wrap (IntKind.i64.wrap ((j : Int) + (m + 2 : Nat)) - 2) = (j + m : Nat) := by rw [hj2, w64] <;> omega
  have hg64 : gg < 18446744073709551616 := by
    have : gg * 1 ≤ gg * t := Nat.mul_le_mul_left _ ht0
    omega
  unfold longSt
  refine awp_block ?_
  refine awp_loop (ι := Nat × Nat) (fun ⟨g, r⟩ => ⟨[(4, .own 1 0 k0 1), (6, .d (.int .i64 (m + 2 : Nat))), (10, .d (.int .i64 s)), (11, .d (du v)), (12, .own 0 0 (k0 + (m + 2)) 1), (13, .d (.int .u64 t)), (14, .d (.int .u64 x)), (15, .d (.int .i64 j)), (16, .d (.int .u64 g)), (17, .d (.int .u64 r))], [(0, some ⟨u32s u, true⟩), (1, some ⟨u32s q, true⟩)], 2⟩)
    (fun ⟨g, r⟩ => g * t + r = U0 * 4294967296 + U1 ∧ r < 4294967296 ∧ val u < (g + 1) * V * E ∧ g < 18446744073709551616) (fun ⟨g, r⟩ => g) (gg, rr) [(0, 0), (1, 1)] ?_ ?_ ?_
  · exact ⟨hgN, by omega, hG.init hgN hrt, hg64⟩
  · (constructor <;> simp [hl, envOk, memOk, conv, St.get, St.blk])
  rintro ⟨g, r⟩ ⟨hgr, hr32, hgU, hg64⟩
  refine awp_cut (ι := Unit) (fun _ => ⟨[(4, .own 1 0 k0 1), (6, .d (.int .i64 (m + 2 : Nat))), (10, .d (.int .i64 s)), (11, .d (du v)), (12, .own 0 0 (k0 + (m + 2)) 1), (13, .d (.int .u64 t)), (14, .d (.int .u64 x)), (15, .d (.int .i64 j)), (16, .d (.int .u64 g)), (17, .d (.int .u64 r))], [(0, some ⟨u32s u, true⟩), (1, some ⟨u32s q, true⟩)], 2⟩)
    (fun _ => 1 ≤ g ∧ val u < g * V * E) ?_ ?_
  · by_cases hc : 4294967296 ≤ g
    · refine awp_sx prog_ok hP hnt [(116, .bool true)] [] [] [4, 6, 10, 11, 12, 13, 14, 15, 16, 17, 133] (by kernel_rfl) (G := fun K => decide ((↑g : Int) ≥ (4294967296 : Int)) = true ∧ K (St.mk [(4, Abs.V.own 1 0 k0 1), (6, Abs.V.d (D.int IntKind.i64 (↑(m + 2) : Int))), (10, Abs.V.d (D.int IntKind.i64 (↑s : Int))), (11, Abs.V.d (du v)), (12, Abs.V.own 0 0 (k0 + (m + 2)) 1), (13, Abs.V.d (D.int IntKind.u64 (↑t : Int))), (14, Abs.V.d (D.int IntKind.u64 (↑x : Int))), (15, Abs.V.d (D.int IntKind.i64 (↑j : Int))), (16, Abs.V.d (D.int IntKind.u64 (↑g : Int))), (17, Abs.V.d (D.int IntKind.u64 (↑r : Int))), (133, Abs.V.d (D.bool true))] [(0, some (Blk.mk (u32s u) true)), (1, some (Blk.mk (u32s q) true))] 21)) (fun K => by kernel_rfl) ?_
      refine ⟨by simp; omega, awp_cond (b := true) rfl (fun _ => awp_skip ⟨(), [(0, 0), (1, 1)], ⟨by omega, hG.dec1 hc⟩, ?_⟩) nofun⟩
      (constructor <;> simp [hl, envOk, memOk, conv, St.get, St.blk])
    · have hgx : g * x ≤ 4294967295 * 4294967295 := Nat.mul_le_mul (by omega) (by omega)
      have e3 := shl32 hr32
      have e4 := or_w hr32 hU2
      refine awp_sx prog_ok hP hnt [(116, .bool false), (120, .int .u64 (g * x : Nat)), (122, .int .u64 (r * 4294967296 : Nat)), (127, .int .i64 (j + m : Nat)), (130, .int .u64 U2), (131, .int .u64 (r * 4294967296 + U2 : Nat))] [] [some [.int .u32 U2]] [4, 6, 10, 11, 12, 13, 14, 15, 16, 17, 133] (by kernel_rfl) (G := fun K => decide ((↑g : Int) ≥ (4294967296 : Int)) = false ∧ IntKind.u64.wrap ((↑g : Int) * (↑x : Int)) = (↑(g * x) : Int) ∧ (0 : Int) ≤ (32 : Int) ∧ IntKind.u64.wrap ((↑r : Int) * (2 : Int) ^ min (Int.toNat (32 : Int)) IntKind.u64.bits) = (↑(r * 4294967296) : Int) ∧ IntKind.i64.wrap (IntKind.i64.wrap ((↑j : Int) + (↑(m + 2) : Int)) - (2 : Int)) = (↑(j + m) : Int) ∧ ((0 : Int) ≤ (↑(j + m) : Int) ∧ (↑(j + m) : Int) < (↑(k0 + (m + 2)) : Int)) ∧ (u32s u)[0 + (↑(j + m) : Int).toNat * 1]? = some (D.int IntKind.u32 (↑U2 : Int)) ∧ IntKind.u64.wrap (↑U2 : Int) = (↑U2 : Int) ∧ IntKind.u64.wrap (↑(BitVec.ofInt IntKind.u64.bits (↑(r * 4294967296) : Int) ||| BitVec.ofInt IntKind.u64.bits (↑U2 : Int)).toNat : Int) = (↑(r * 4294967296 + U2) : Int) ∧ K (St.mk [(4, Abs.V.own 1 0 k0 1), (6, Abs.V.d (D.int IntKind.i64 (↑(m + 2) : Int))), (10, Abs.V.d (D.int IntKind.i64 (↑s : Int))), (11, Abs.V.d (du v)), (12, Abs.V.own 0 0 (k0 + (m + 2)) 1), (13, Abs.V.d (D.int IntKind.u64 (↑t : Int))), (14, Abs.V.d (D.int IntKind.u64 (↑x : Int))), (15, Abs.V.d (D.int IntKind.i64 (↑j : Int))), (16, Abs.V.d (D.int IntKind.u64 (↑g : Int))), (17, Abs.V.d (D.int IntKind.u64 (↑r : Int))), (133, Abs.V.d (D.bool (decide ((↑(g * x) : Int) > (↑(r * 4294967296 + U2) : Int)))))] [(0, some (Blk.mk (u32s u) true)), (1, some (Blk.mk (u32s q) true))] 21)) (fun K => by kernel_rfl) ?_
      refine ⟨by simp; omega, by rw [← Int.natCast_mul, u64w] <;> omega, by omega, e3, hj0, ⟨by omega, by omega⟩, gu2, u64w (by omega) (by omega), e4, ?_⟩
      refine awp_cond rfl (fun e5 => awp_skip ⟨(), [(0, 0), (1, 1)], ?_, ?_⟩) (fun e5 => awp_exit ⟨g, [(0, 0), (1, 1)], ?_, ?_⟩)
      · have e6 := of_decide_eq_true e5
        have e7 : r * 4294967296 + U2 < g * x := by exact_mod_cast e6
        refine ⟨?_, hG.dec2 hgr e7⟩
        rcases Nat.eq_zero_or_pos g with h | h
        · subst h; rw [Nat.zero_mul] at e7; omega
        · exact h
      · (constructor <;> simp [hl, envOk, memOk, conv, St.get, St.blk])
      · have e6 := of_decide_eq_false e5
        have e7 : g * x ≤ r * 4294967296 + U2 := by
          rcases Nat.lt_or_ge (r * 4294967296 + U2) (g * x) with h | h
          · exact absurd (by exact_mod_cast h) e6
          · exact h
        exact ⟨by omega, hgU, hG.fin hgr e7 (by omega)⟩
      · (constructor <;> simp [hl, envOk, memOk, conv, St.get, St.blk])
  intro _ ⟨hg1, hgU2⟩
  have hgr2 : (g - 1) * t + (r + t) = U0 * 4294967296 + U1 := by
    rw [← hgr]
    obtain ⟨g', rfl⟩ : ∃ g', g = g' + 1 := ⟨g - 1, by omega⟩
    rw [Nat.add_sub_cancel, Nat.add_mul, Nat.one_mul]
    omega
  refine awp_block ?_
  refine awp_sx prog_ok hP hnt [(135, .int .u64 (g - 1 : Nat))] [] [] [4, 6, 10, 11, 12, 13, 14, 15, 16, 17] (by kernel_rfl) (G := fun K => IntKind.u64.wrap ((↑g : Int) - (1 : Int)) = (↑(g - 1) : Int) ∧ K (St.mk [(4, Abs.V.own 1 0 k0 1), (6, Abs.V.d (D.int IntKind.i64 (↑(m + 2) : Int))), (10, Abs.V.d (D.int IntKind.i64 (↑s : Int))), (11, Abs.V.d (du v)), (12, Abs.V.own 0 0 (k0 + (m + 2)) 1), (13, Abs.V.d (D.int IntKind.u64 (↑t : Int))), (14, Abs.V.d (D.int IntKind.u64 (↑x : Int))), (15, Abs.V.d (D.int IntKind.i64 (↑j : Int))), (16, Abs.V.d (D.int IntKind.u64 (↑(g - 1) : Int))), (17, Abs.V.d (D.int IntKind.u64 (↑r : Int)))] [(0, some (Blk.mk (u32s u) true)), (1, some (Blk.mk (u32s q) true))] 5)) (fun K => by kernel_rfl) ?_
  refine ⟨by rw [u64w] <;> omega, ?_⟩
  refine awp_sx prog_ok hP hnt [(138, .int .u64 (r + t : Nat))] [] [] [4, 6, 10, 11, 12, 13, 14, 15, 16, 17] (by kernel_rfl) (G := fun K => IntKind.u64.wrap ((↑r : Int) + (↑t : Int)) = (↑(r + t) : Int) ∧ K (St.mk [(4, Abs.V.own 1 0 k0 1), (6, Abs.V.d (D.int IntKind.i64 (↑(m + 2) : Int))), (10, Abs.V.d (D.int IntKind.i64 (↑s : Int))), (11, Abs.V.d (du v)), (12, Abs.V.own 0 0 (k0 + (m + 2)) 1), (13, Abs.V.d (D.int IntKind.u64 (↑t : Int))), (14, Abs.V.d (D.int IntKind.u64 (↑x : Int))), (15, Abs.V.d (D.int IntKind.i64 (↑j : Int))), (16, Abs.V.d (D.int IntKind.u64 (↑(g - 1) : Int))), (17, Abs.V.d (D.int IntKind.u64 (↑(r + t) : Int)))] [(0, some (Blk.mk (u32s u) true)), (1, some (Blk.mk (u32s q) true))] 9)) (fun K => by kernel_rfl) ?_
  refine ⟨by rw [u64w] <;> omega, ?_⟩
  refine awp_sx prog_ok hP hnt [] [] [] [4, 6, 10, 11, 12, 13, 14, 15, 16, 17, 140] (by kernel_rfl) (G := fun K => K (St.mk [(4, Abs.V.own 1 0 k0 1), (6, Abs.V.d (D.int IntKind.i64 (↑(m + 2) : Int))), (10, Abs.V.d (D.int IntKind.i64 (↑s : Int))), (11, Abs.V.d (du v)), (12, Abs.V.own 0 0 (k0 + (m + 2)) 1), (13, Abs.V.d (D.int IntKind.u64 (↑t : Int))), (14, Abs.V.d (D.int IntKind.u64 (↑x : Int))), (15, Abs.V.d (D.int IntKind.i64 (↑j : Int))), (16, Abs.V.d (D.int IntKind.u64 (↑(g - 1) : Int))), (17, Abs.V.d (D.int IntKind.u64 (↑(r + t) : Int))), (140, Abs.V.d (D.bool (decide ((↑(r + t) : Int) ≥ (4294967296 : Int)))))] [(0, some (Blk.mk (u32s u) true)), (1, some (Blk.mk (u32s q) true))] 11)) (fun K => by kernel_rfl) ?_
  refine awp_cond rfl (fun e5 => awp_exit ⟨g - 1, [(0, 0), (1, 1)], ?_, ?_⟩) (fun e5 => awp_skip ⟨(g - 1, r + t), [(0, 0), (1, 1)], ?_, ?_⟩)
  · simp at e5
    obtain ⟨h1, h2⟩ := hG.brk hgr2 (by omega)
    refine ⟨h1, ?_, hG.fin hgr2 h2 h1⟩
    rw [show g - 1 + 1 = g by omega]; exact hgU2
  · (constructor <;> simp [hl, envOk, memOk, conv, St.get, St.blk])
  · simp at e5
    refine ⟨⟨hgr2, by omega, ?_, by omega⟩, by show g - 1 < g; omega⟩
    rw [show g - 1 + 1 = g by omega]; exact hgU2
  · (constructor <;> simp [hl, envOk, memOk, conv, St.get, St.blk])
end Go.Abs

set_option linter.unusedVariables false
set_option linter.unusedSimpArgs false
namespace Go.Abs
open Go Go.Proofs
set_option maxRecDepth 100000

theorem and_u64 {p : Nat} (hp : p < 18446744073709551616) : IntKind.u64.wrap (BitVec.ofInt IntKind.u64.bits (p : Int) &&& BitVec.ofInt IntKind.u64.bits 4294967295).toNat = (p % 4294967296 : Nat) := by
  show IntKind.u64.wrap (BitVec.ofInt 64 (p : Int) &&& BitVec.ofInt 64 4294967295).toNat = _
  rw [BitVec.toNat_and, BitVec.ofInt_natCast, BitVec.toNat_ofNat, Nat.mod_eq_of_lt hp, show (BitVec.ofInt 64 4294967295).toNat = 2 ^ 32 - 1 from rfl, Nat.and_two_pow_sub_one_eq_mod]
  exact u64w (by omega) (by omega)

theorem sub_loop {Cx : Ctx} (hP : Cx.P = Try.prog) (hnt : Cx.nt = 251) (hl : Cx.lids = []) {Q : Exit → St → Prop} {m k0 s : Nat} {v u q : List Nat} {t x j g : Nat}
    (hud : Dg u) (hvd : Dg v) (hjk : j < k0) (hul : u.length = k0 + (m + 2)) (hvl : v.length = m + 2) (hmk : k0 + (m + 2) ≤ 2 ^ 40) (hg : g < 4294967296) :
    AWP Cx longSub (longSt m k0 s v u q t x j [(16, .d (.int .u64 g)), (18, .d (.int .u64 (0 : Nat))), (19, .d (.int .u64 (0 : Nat)))])
      (thenQ (fun s' => ∃ (z : List Nat × Nat × Nat) (ρ : List (Nat × Nat)), (z.1.length = u.length ∧ Dg z.1 ∧ z.1.drop (j + (m + 2)) = u.drop (j + (m + 2)) ∧ z.2.1 < 4294967296 ∧ z.2.2 ≤ 1 ∧
        val (z.1.take (j + (m + 2))) + 4294967296 ^ j * (g * val v) = val (u.take (j + (m + 2))) + 4294967296 ^ (j + (m + 2)) * (z.2.1 + z.2.2)) ∧
        Weak Cx.lids ρ s' (longSt m k0 s v z.1 q t x j [(16, .d (.int .u64 g)), (18, .d (.int .u64 z.2.1)), (19, .d (.int .u64 z.2.2))])) Q) := by
  unfold longSt
  refine awp_sx prog_ok hP hnt [] [] [] [4, 6, 10, 11, 12, 13, 14, 15, 16, 18, 19, 141, 142, 143] (by kernel_rfl) (G := fun K => K (St.mk [(4, V.own 1 0 k0 1), (6, V.d (D.int IntKind.i64 (↑(m + 2) : Int))), (10, V.d (D.int IntKind.i64 (↑s : Int))), (11, V.d (du v)), (12, V.own 0 0 (k0 + (m + 2)) 1), (13, V.d (D.int IntKind.u64 (↑t : Int))), (14, V.d (D.int IntKind.u64 (↑x : Int))), (15, V.d (D.int IntKind.i64 (↑j : Int))), (16, V.d (D.int IntKind.u64 (↑g : Int))), (18, V.d (D.int IntKind.u64 (↑0 : Int))), (19, V.d (D.int IntKind.u64 (↑0 : Int))), (141, V.d (du v)), (142, V.d (D.int IntKind.i64 (↑v.length : Int))), (143, V.d (D.int IntKind.i64 (0 : Int)))] [(0, some (Blk.mk (u32s u) true)), (1, some (Blk.mk (u32s q) true))] 5)) (fun K => by kernel_rfl) ?_
  refine awp_block ?_
  refine awp_loop (ι := Nat × List Nat × Nat × Nat) (fun ⟨i, o, c, w⟩ => ⟨[(4, .own 1 0 k0 1), (6, .d (.int .i64 (m + 2 : Nat))), (10, .d (.int .i64 s)), (11, .d (du v)), (12, .own 0 0 (k0 + (m + 2)) 1), (13, .d (.int .u64 t)), (14, .d (.int .u64 x)), (15, .d (.int .i64 j)), (16, .d (.int .u64 g)), (18, .d (.int .u64 c)), (19, .d (.int .u64 w)), (141, .d (du v)), (142, .d (.int .i64 (m + 2 : Nat))), (143, .d (.int .i64 i))], [(0, some ⟨u32s o, true⟩), (1, some ⟨u32s q, true⟩)], 2⟩)
    (fun ⟨i, o, c, w⟩ => i ≤ m + 2 ∧ o.length = u.length ∧ Dg o ∧ o.drop (j + i) = u.drop (j + i) ∧ c < 4294967296 ∧ w ≤ 1 ∧ val (o.take (j + i)) + 4294967296 ^ j * (g * val (v.take i)) = val (u.take (j + i)) + 4294967296 ^ (j + i) * (c + w)) (fun ⟨i, o, c, w⟩ => m + 2 - i) (0, u, 0, 0) [(0, 0), (1, 1)] ?_ ?_ ?_
  · refine ⟨by omega, rfl, hud, rfl, by omega, by omega, ?_⟩
    simp [val]
  · rw [← hvl]
    (constructor <;> simp [hl, envOk, memOk, conv, St.get, St.blk])
  rintro ⟨i, o, c, w⟩ ⟨hi, hol, hod, hdr, hc, hw, hv⟩
  refine awp_sx prog_ok hP hnt [] [] [] [4, 6, 10, 11, 12, 13, 14, 15, 16, 18, 19, 141, 142, 143, 144] (by kernel_rfl) (G := fun K => K (St.mk [(4, V.own 1 0 k0 1), (6, V.d (D.int IntKind.i64 (↑(m + 2) : Int))), (10, V.d (D.int IntKind.i64 (↑s : Int))), (11, V.d (du v)), (12, V.own 0 0 (k0 + (m + 2)) 1), (13, V.d (D.int IntKind.u64 (↑t : Int))), (14, V.d (D.int IntKind.u64 (↑x : Int))), (15, V.d (D.int IntKind.i64 (↑j : Int))), (16, V.d (D.int IntKind.u64 (↑g : Int))), (18, V.d (D.int IntKind.u64 (↑c : Int))), (19, V.d (D.int IntKind.u64 (↑w : Int))), (141, V.d (du v)), (142, V.d (D.int IntKind.i64 (↑(m + 2) : Int))), (143, V.d (D.int IntKind.i64 (↑i : Int))), (144, V.d (D.bool (decide ((↑i : Int) < (↑(m + 2) : Int)))))] [(0, some (Blk.mk (u32s o) true)), (1, some (Blk.mk (u32s q) true))] 3)) (fun K => by kernel_rfl) ?_
  refine awp_seq_k fun K1 hK1 => ?_
  refine awp_cond rfl (fun e => awp_skip (hK1 _ ?_)) (fun e => awp_exit ⟨(o, c, w), [(0, 0), (1, 1)], ?_, ?_⟩)
  · simp at e
    obtain ⟨X, gx⟩ := get_ex (l := v) (i := i) (by omega)
    obtain ⟨Y, gy⟩ := get_ex (l := u) (i := j + i) (by omega)
    have goy : o[j + i]? = some Y := by rw [get_drop_eq hdr (Nat.le_refl _)]; exact gy
    have hX := dg_get hvd gx
    have hY := dg_get hud gy
    refine awp_seq_k fun K2 hK2 => ?_
    refine awp_block ?_
    refine awp_sx prog_ok hP hnt [] [] [some [.int .u32 X]] [4, 6, 10, 11, 12, 13, 14, 15, 16, 18, 19, 20, 21, 141, 142, 143] (by kernel_rfl) (G := fun K => ((0 : Int) ≤ (↑i : Int) ∧ (↑i : Int) < (↑v.length : Int) ∧ ((↑i : Int).toNat + 1) * 1 ≤ (u32s v).length) ∧ (List.drop ((↑i : Int).toNat * 1) (u32s v))[0]? = some (D.int IntKind.u32 (↑X : Int)) ∧ K (St.mk [(4, V.own 1 0 k0 1), (6, V.d (D.int IntKind.i64 (↑(m + 2) : Int))), (10, V.d (D.int IntKind.i64 (↑s : Int))), (11, V.d (du v)), (12, V.own 0 0 (k0 + (m + 2)) 1), (13, V.d (D.int IntKind.u64 (↑t : Int))), (14, V.d (D.int IntKind.u64 (↑x : Int))), (15, V.d (D.int IntKind.i64 (↑j : Int))), (16, V.d (D.int IntKind.u64 (↑g : Int))), (18, V.d (D.int IntKind.u64 (↑c : Int))), (19, V.d (D.int IntKind.u64 (↑w : Int))), (141, V.d (du v)), (142, V.d (D.int IntKind.i64 (↑(m + 2) : Int))), (143, V.d (D.int IntKind.i64 (↑i : Int))), (20, V.d (D.int IntKind.i64 (↑i : Int))), (21, V.d (D.int IntKind.u32 (↑X : Int)))] [(0, some (Blk.mk (u32s o) true)), (1, some (Blk.mk (u32s q) true))] 8)) (fun K => by kernel_rfl) ?_
    have hgX : g * X ≤ 4294967295 * 4294967295 := Nat.mul_le_mul (by omega) (by omega)
    obtain ⟨p, hp⟩ : ∃ p, p = g * X + c := ⟨_, rfl⟩
    have hp64 : p < 18446744073709551616 := by omega
    refine ⟨⟨by omega, by omega, by simp; omega⟩, by rw [Int.toNat_natCast, Nat.mul_one, List.getElem?_drop, Nat.add_zero, u32s_get, gx]; rfl, ?_⟩
    refine awp_sx prog_ok hP hnt [(150, .int .u64 X), (151, .int .u64 (g * X : Nat)), (153, .int .u64 p)] [] [] [4, 6, 10, 11, 12, 13, 14, 15, 16, 19, 20, 22, 141, 142, 143] (by kernel_rfl) (G := fun K => IntKind.u64.wrap (↑X : Int) = (↑X : Int) ∧ IntKind.u64.wrap ((↑g : Int) * (↑X : Int)) = (↑(g * X) : Int) ∧ IntKind.u64.wrap ((↑(g * X) : Int) + (↑c : Int)) = (↑p : Int) ∧ K (St.mk [(4, V.own 1 0 k0 1), (6, V.d (D.int IntKind.i64 (↑(m + 2) : Int))), (10, V.d (D.int IntKind.i64 (↑s : Int))), (11, V.d (du v)), (12, V.own 0 0 (k0 + (m + 2)) 1), (13, V.d (D.int IntKind.u64 (↑t : Int))), (14, V.d (D.int IntKind.u64 (↑x : Int))), (15, V.d (D.int IntKind.i64 (↑j : Int))), (16, V.d (D.int IntKind.u64 (↑g : Int))), (19, V.d (D.int IntKind.u64 (↑w : Int))), (141, V.d (du v)), (142, V.d (D.int IntKind.i64 (↑(m + 2) : Int))), (143, V.d (D.int IntKind.i64 (↑i : Int))), (20, V.d (D.int IntKind.i64 (↑i : Int))), (22, V.d (D.int IntKind.u64 (↑p : Int)))] [(0, some (Blk.mk (u32s o) true)), (1, some (Blk.mk (u32s q) true))] 15)) (fun K => by kernel_rfl) ?_
    refine ⟨u64w (by omega) (by omega), by rw [← Int.natCast_mul, u64w] <;> omega, by rw [u64w] <;> omega, ?_⟩
    refine awp_sx prog_ok hP hnt [(155, .int .u64 (p / 4294967296 : Nat))] [] [] [4, 6, 10, 11, 12, 13, 14, 15, 16, 18, 19, 20, 22, 141, 142, 143] (by kernel_rfl) (G := fun K => (0 : Int) ≤ (32 : Int) ∧ (↑p : Int).fdiv ((2 : Int) ^ min (Int.toNat (32 : Int)) IntKind.u64.bits) = (↑(p / 4294967296) : Int) ∧ K (St.mk [(4, V.own 1 0 k0 1), (6, V.d (D.int IntKind.i64 (↑(m + 2) : Int))), (10, V.d (D.int IntKind.i64 (↑s : Int))), (11, V.d (du v)), (12, V.own 0 0 (k0 + (m + 2)) 1), (13, V.d (D.int IntKind.u64 (↑t : Int))), (14, V.d (D.int IntKind.u64 (↑x : Int))), (15, V.d (D.int IntKind.i64 (↑j : Int))), (16, V.d (D.int IntKind.u64 (↑g : Int))), (19, V.d (D.int IntKind.u64 (↑w : Int))), (141, V.d (du v)), (142, V.d (D.int IntKind.i64 (↑(m + 2) : Int))), (143, V.d (D.int IntKind.i64 (↑i : Int))), (20, V.d (D.int IntKind.i64 (↑i : Int))), (22, V.d (D.int IntKind.u64 (↑p : Int))), (18, V.d (D.int IntKind.u64 (↑(p / 4294967296) : Int)))] [(0, some (Blk.mk (u32s o) true)), (1, some (Blk.mk (u32s q) true))] 18)) (fun K => by kernel_rfl) ?_
    refine ⟨by omega, fdivN p 32, ?_⟩
    obtain ⟨d, f, hd1, hf1, hf2, hd2, hd3⟩ := sub_word hY hw (show p % 4294967296 < 4294967296 by omega) rfl
    have hji : IntKind.i64.wrap ((i : Int) + j) = (j + i : Nat) := by rw [w64] <;> omega
    have hT : IntKind.u64.wrap (IntKind.u64.wrap ((Y : Int) - w) - (p % 4294967296 : Nat)) = ((Y : Int) - w - (p % 4294967296 : Nat)) % 18446744073709551616 := by
      rw [IntKind.wrap_u64, IntKind.wrap_u64]; omega
    obtain ⟨T, hT0⟩ : ∃ T : Nat, (T : Int) = ((Y : Int) - w - (p % 4294967296 : Nat)) % 18446744073709551616 := ⟨(((Y : Int) - w - (p % 4294967296 : Nat)) % 18446744073709551616).toNat, by omega⟩
    rw [← hT0] at hT hd1 hf1
    refine awp_sx prog_ok hP hnt [(159, .int .i64 (j + i : Nat)), (162, .int .u64 Y), (166, .int .u64 (p % 4294967296 : Nat)), (167, .int .u64 T)] [] [some [.int .u32 Y]] [4, 6, 10, 11, 12, 13, 14, 15, 16, 18, 20, 23, 141, 142, 143] (by kernel_rfl) (G := fun K => IntKind.i64.wrap ((↑i : Int) + (↑j : Int)) = (↑(j + i) : Int) ∧ ((0 : Int) ≤ (↑(j + i) : Int) ∧ (↑(j + i) : Int) < (↑(k0 + (m + 2)) : Int)) ∧ (u32s o)[0 + (↑(j + i) : Int).toNat * 1]? = some (D.int IntKind.u32 (↑Y : Int)) ∧ IntKind.u64.wrap (↑Y : Int) = (↑Y : Int) ∧ IntKind.u64.wrap (↑(BitVec.ofInt IntKind.u64.bits (↑p : Int) &&& BitVec.ofInt IntKind.u64.bits (4294967295 : Int)).toNat : Int) = (↑(p % 4294967296) : Int) ∧ IntKind.u64.wrap (IntKind.u64.wrap ((↑Y : Int) - (↑w : Int)) - (↑(p % 4294967296) : Int)) = (↑T : Int) ∧ K (St.mk [(4, V.own 1 0 k0 1), (6, V.d (D.int IntKind.i64 (↑(m + 2) : Int))), (10, V.d (D.int IntKind.i64 (↑s : Int))), (11, V.d (du v)), (12, V.own 0 0 (k0 + (m + 2)) 1), (13, V.d (D.int IntKind.u64 (↑t : Int))), (14, V.d (D.int IntKind.u64 (↑x : Int))), (15, V.d (D.int IntKind.i64 (↑j : Int))), (16, V.d (D.int IntKind.u64 (↑g : Int))), (141, V.d (du v)), (142, V.d (D.int IntKind.i64 (↑(m + 2) : Int))), (143, V.d (D.int IntKind.i64 (↑i : Int))), (20, V.d (D.int IntKind.i64 (↑i : Int))), (18, V.d (D.int IntKind.u64 (↑(p / 4294967296) : Int))), (23, V.d (D.int IntKind.u64 (↑T : Int)))] [(0, some (Blk.mk (u32s o) true)), (1, some (Blk.mk (u32s q) true))] 31)) (fun K => by kernel_rfl) ?_
    refine ⟨hji, ⟨by omega, by omega⟩, by rw [Int.toNat_natCast, Nat.zero_add, Nat.mul_one, u32s_get, goy]; rfl, u64w (by omega) (by omega), and_u64 hp64, hT, ?_⟩
    refine awp_sx prog_ok hP hnt [(171, .int .i64 (j + i : Nat)), (173, .int .u32 d)] [] [] [4, 6, 10, 11, 12, 13, 14, 15, 16, 18, 23, 141, 142, 143] (by kernel_rfl) (G := fun K => IntKind.i64.wrap ((↑i : Int) + (↑j : Int)) = (↑(j + i) : Int) ∧ IntKind.u32.wrap (↑T : Int) = (↑d : Int) ∧ ((0 : Int) ≤ (↑(j + i) : Int) ∧ (↑(j + i) : Int) < (↑(k0 + (m + 2)) : Int)) ∧ 0 + (↑(j + i) : Int).toNat * 1 + [D.int IntKind.u32 (↑d : Int)].length ≤ (u32s o).length ∧ K (St.mk [(4, V.own 1 0 k0 1), (6, V.d (D.int IntKind.i64 (↑(m + 2) : Int))), (10, V.d (D.int IntKind.i64 (↑s : Int))), (11, V.d (du v)), (12, V.own 0 0 (k0 + (m + 2)) 1), (13, V.d (D.int IntKind.u64 (↑t : Int))), (14, V.d (D.int IntKind.u64 (↑x : Int))), (15, V.d (D.int IntKind.i64 (↑j : Int))), (16, V.d (D.int IntKind.u64 (↑g : Int))), (141, V.d (du v)), (142, V.d (D.int IntKind.i64 (↑(m + 2) : Int))), (143, V.d (D.int IntKind.i64 (↑i : Int))), (18, V.d (D.int IntKind.u64 (↑(p / 4294967296) : Int))), (23, V.d (D.int IntKind.u64 (↑T : Int)))] [(0, some (Blk.mk (setCells (u32s o) (0 + (↑(j + i) : Int).toNat * 1) [D.int IntKind.u32 (↑d : Int)]) true)), (1, some (Blk.mk (u32s q) true))] 39)) (fun K => by kernel_rfl) ?_
    refine ⟨hji, by rw [IntKind.wrap_u32]; omega, ⟨by omega, by omega⟩, by simp; omega, ?_⟩
    have hsh : (T : Int).fdiv (2 ^ (min (Int.toNat 63) IntKind.u64.bits)) = (f : Int) := by
      show (T : Int).fdiv (2 ^ 63) = _
      rw [fdivN]; omega
    refine awp_x prog_ok hP hnt [(176, .int .u64 f)] [] [] [4, 6, 10, 11, 12, 13, 14, 15, 16, 18, 19, 141, 142, 143] (by kernel_rfl) (G := fun K => (0 : Int) ≤ (63 : Int) ∧ (↑T : Int).fdiv ((2 : Int) ^ min (Int.toNat (63 : Int)) IntKind.u64.bits) = (↑f : Int) ∧ K (St.mk [(4, V.own 1 0 k0 1), (6, V.d (D.int IntKind.i64 (↑(m + 2) : Int))), (10, V.d (D.int IntKind.i64 (↑s : Int))), (11, V.d (du v)), (12, V.own 0 0 (k0 + (m + 2)) 1), (13, V.d (D.int IntKind.u64 (↑t : Int))), (14, V.d (D.int IntKind.u64 (↑x : Int))), (15, V.d (D.int IntKind.i64 (↑j : Int))), (16, V.d (D.int IntKind.u64 (↑g : Int))), (141, V.d (du v)), (142, V.d (D.int IntKind.i64 (↑(m + 2) : Int))), (143, V.d (D.int IntKind.i64 (↑i : Int))), (18, V.d (D.int IntKind.u64 (↑(p / 4294967296) : Int))), (19, V.d (D.int IntKind.u64 (↑f : Int)))] [(0, some (Blk.mk (setCells (u32s o) (0 + (↑(j + i) : Int).toNat * 1) [D.int IntKind.u32 (↑d : Int)]) true)), (1, some (Blk.mk (u32s q) true))] 42)) (fun K => by kernel_rfl) ?_
    refine ⟨by omega, hsh, hK2 _ ?_⟩
    refine awp_x prog_ok hP hnt [(177, .int .i64 (i + 1 : Nat))] [] [] [4, 6, 10, 11, 12, 13, 14, 15, 16, 18, 19, 141, 142, 143] (by kernel_rfl) (G := fun K => IntKind.i64.wrap ((↑i : Int) + (1 : Int)) = (↑(i + 1) : Int) ∧ K (St.mk [(4, V.own 1 0 k0 1), (6, V.d (D.int IntKind.i64 (↑(m + 2) : Int))), (10, V.d (D.int IntKind.i64 (↑s : Int))), (11, V.d (du v)), (12, V.own 0 0 (k0 + (m + 2)) 1), (13, V.d (D.int IntKind.u64 (↑t : Int))), (14, V.d (D.int IntKind.u64 (↑x : Int))), (15, V.d (D.int IntKind.i64 (↑j : Int))), (16, V.d (D.int IntKind.u64 (↑g : Int))), (141, V.d (du v)), (142, V.d (D.int IntKind.i64 (↑(m + 2) : Int))), (143, V.d (D.int IntKind.i64 (↑(i + 1) : Int))), (18, V.d (D.int IntKind.u64 (↑(p / 4294967296) : Int))), (19, V.d (D.int IntKind.u64 (↑f : Int)))] [(0, some (Blk.mk (setCells (u32s o) (0 + (↑(j + i) : Int).toNat * 1) [D.int IntKind.u32 (↑d : Int)]) true)), (1, some (Blk.mk (u32s q) true))] 44)) (fun K => by kernel_rfl) ?_
    have hstep := msub_step (c' := p / 4294967296) (by omega : j + i < o.length) gy gx (show g * X + c = p / 4294967296 * 4294967296 + p % 4294967296 by omega) hd3 hv
    refine ⟨by rw [w64] <;> omega, (i + 1, o.set (j + i) d, p / 4294967296, f), [(0, 0), (1, 1)], ⟨⟨by omega, by simp [hol], dg_set hod hd2, ?_, by omega, hf2, hstep⟩, by show m + 2 - (i + 1) < m + 2 - i; omega⟩, ?_⟩
    · rw [drop_set_lt (by omega), ← Nat.add_assoc, ← List.drop_drop, hdr, List.drop_drop]
    · rw [Int.toNat_natCast, Nat.zero_add, Nat.mul_one, setCells_u32]
      (constructor <;> simp [hl, envOk, memOk, conv, St.get, St.blk])
  · simp at e
    have hi2 : i = m + 2 := by omega
    subst hi2
    refine ⟨hol, hod, hdr, hc, hw, ?_⟩
    rwa [show v.take (m + 2) = v from List.take_of_length_le (by omega)] at hv
  · (constructor <;> simp [hl, envOk, memOk, conv, St.get, St.blk])
end Go.Abs

set_option linter.unusedVariables false
set_option linter.unusedSimpArgs false
namespace Go.Abs
open Go Go.Proofs
set_option maxRecDepth 100000

theorem back_loop {Cx : Ctx} (hP : Cx.P = Try.prog) (hnt : Cx.nt = 251) (hl : Cx.lids = []) {Q : Exit → St → Prop} {m k0 s : Nat} {v u q : List Nat} {t x j : Nat}
    (hud : Dg u) (hvd : Dg v) (hjk : j < k0) (hul : u.length = k0 + (m + 2)) (hvl : v.length = m + 2) (hmk : k0 + (m + 2) ≤ 2 ^ 40) :
    AWP Cx longBack (longSt m k0 s v u q t x j [(25, .d (.int .u32 (0 : Nat)))])
      (thenQ (fun s' => ∃ (z : List Nat × Nat) (ρ : List (Nat × Nat)), (z.1.length = u.length ∧ Dg z.1 ∧ z.1.drop (j + (m + 2)) = u.drop (j + (m + 2)) ∧ z.2 ≤ 1 ∧
        val (z.1.take (j + (m + 2))) + 4294967296 ^ (j + (m + 2)) * z.2 = val (u.take (j + (m + 2))) + 4294967296 ^ j * val v) ∧
        Weak Cx.lids ρ s' (longSt m k0 s v z.1 q t x j [(25, .d (.int .u32 z.2))])) Q) := by
  unfold longSt
  refine awp_sx prog_ok hP hnt [] [] [] [4, 6, 10, 11, 12, 13, 14, 15, 25, 210, 211, 212] (by kernel_rfl) (G := fun K => K (St.mk [(4, V.own 1 0 k0 1), (6, V.d (D.int IntKind.i64 (↑(m + 2) : Int))), (10, V.d (D.int IntKind.i64 (↑s : Int))), (11, V.d (du v)), (12, V.own 0 0 (k0 + (m + 2)) 1), (13, V.d (D.int IntKind.u64 (↑t : Int))), (14, V.d (D.int IntKind.u64 (↑x : Int))), (15, V.d (D.int IntKind.i64 (↑j : Int))), (25, V.d (D.int IntKind.u32 (↑0 : Int))), (210, V.d (du v)), (211, V.d (D.int IntKind.i64 (↑v.length : Int))), (212, V.d (D.int IntKind.i64 (0 : Int)))] [(0, some (Blk.mk (u32s u) true)), (1, some (Blk.mk (u32s q) true))] 5)) (fun K => by kernel_rfl) ?_
  refine awp_block ?_
  refine awp_loop (ι := Nat × List Nat × Nat) (fun ⟨i, o, c⟩ => ⟨[(4, .own 1 0 k0 1), (6, .d (.int .i64 (m + 2 : Nat))), (10, .d (.int .i64 s)), (11, .d (du v)), (12, .own 0 0 (k0 + (m + 2)) 1), (13, .d (.int .u64 t)), (14, .d (.int .u64 x)), (15, .d (.int .i64 j)), (25, .d (.int .u32 c)), (210, .d (du v)), (211, .d (.int .i64 (m + 2 : Nat))), (212, .d (.int .i64 i))], [(0, some ⟨u32s o, true⟩), (1, some ⟨u32s q, true⟩)], 2⟩)
    (fun ⟨i, o, c⟩ => i ≤ m + 2 ∧ o.length = u.length ∧ Dg o ∧ o.drop (j + i) = u.drop (j + i) ∧ c ≤ 1 ∧ val (o.take (j + i)) + 4294967296 ^ (j + i) * c = val (u.take (j + i)) + 4294967296 ^ j * val (v.take i)) (fun ⟨i, o, c⟩ => m + 2 - i) (0, u, 0) [(0, 0), (1, 1)] ?_ ?_ ?_
  · refine ⟨by omega, rfl, hud, rfl, by omega, ?_⟩
    simp [val]
  · rw [← hvl]
    (constructor <;> simp [hl, envOk, memOk, conv, St.get, St.blk])
  rintro ⟨i, o, c⟩ ⟨hi, hol, hod, hdr, hc, hv⟩
  refine awp_sx prog_ok hP hnt [] [] [] [4, 6, 10, 11, 12, 13, 14, 15, 25, 210, 211, 212, 213] (by kernel_rfl) (G := fun K => K (St.mk [(4, V.own 1 0 k0 1), (6, V.d (D.int IntKind.i64 (↑(m + 2) : Int))), (10, V.d (D.int IntKind.i64 (↑s : Int))), (11, V.d (du v)), (12, V.own 0 0 (k0 + (m + 2)) 1), (13, V.d (D.int IntKind.u64 (↑t : Int))), (14, V.d (D.int IntKind.u64 (↑x : Int))), (15, V.d (D.int IntKind.i64 (↑j : Int))), (25, V.d (D.int IntKind.u32 (↑c : Int))), (210, V.d (du v)), (211, V.d (D.int IntKind.i64 (↑(m + 2) : Int))), (212, V.d (D.int IntKind.i64 (↑i : Int))), (213, V.d (D.bool (decide ((↑i : Int) < (↑(m + 2) : Int)))))] [(0, some (Blk.mk (u32s o) true)), (1, some (Blk.mk (u32s q) true))] 3)) (fun K => by kernel_rfl) ?_
  refine awp_seq_k fun K1 hK1 => ?_
  refine awp_cond rfl (fun e => awp_skip (hK1 _ ?_)) (fun e => awp_exit ⟨(o, c), [(0, 0), (1, 1)], ?_, ?_⟩)
  · simp at e
    obtain ⟨X, gx⟩ := get_ex (l := v) (i := i) (by omega)
    obtain ⟨Y, gy⟩ := get_ex (l := u) (i := j + i) (by omega)
    have goy : o[j + i]? = some Y := by rw [get_drop_eq hdr (Nat.le_refl _)]; exact gy
    have hX := dg_get hvd gx
    have hY := dg_get hud gy
    have hji : IntKind.i64.wrap ((i : Int) + j) = (j + i : Nat) := by rw [w64] <;> omega
    refine awp_seq_k fun K2 hK2 => ?_
    refine awp_block ?_
    refine awp_sx prog_ok hP hnt [] [] [some [.int .u32 X]] [4, 6, 10, 11, 12, 13, 14, 15, 25, 26, 27, 210, 211, 212] (by kernel_rfl) (G := fun K => ((0 : Int) ≤ (↑i : Int) ∧ (↑i : Int) < (↑v.length : Int) ∧ ((↑i : Int).toNat + 1) * 1 ≤ (u32s v).length) ∧ (List.drop ((↑i : Int).toNat * 1) (u32s v))[0]? = some (D.int IntKind.u32 (↑X : Int)) ∧ K (St.mk [(4, V.own 1 0 k0 1), (6, V.d (D.int IntKind.i64 (↑(m + 2) : Int))), (10, V.d (D.int IntKind.i64 (↑s : Int))), (11, V.d (du v)), (12, V.own 0 0 (k0 + (m + 2)) 1), (13, V.d (D.int IntKind.u64 (↑t : Int))), (14, V.d (D.int IntKind.u64 (↑x : Int))), (15, V.d (D.int IntKind.i64 (↑j : Int))), (25, V.d (D.int IntKind.u32 (↑c : Int))), (210, V.d (du v)), (211, V.d (D.int IntKind.i64 (↑(m + 2) : Int))), (212, V.d (D.int IntKind.i64 (↑i : Int))), (26, V.d (D.int IntKind.i64 (↑i : Int))), (27, V.d (D.int IntKind.u32 (↑X : Int)))] [(0, some (Blk.mk (u32s o) true)), (1, some (Blk.mk (u32s q) true))] 8)) (fun K => by kernel_rfl) ?_
    refine ⟨⟨by omega, by omega, by simp; omega⟩, by rw [Int.toNat_natCast, Nat.mul_one, List.getElem?_drop, Nat.add_zero, u32s_get, gx]; rfl, ?_⟩
    have h32 := add32_fn Y X c hY hX (by omega)
    have hstep := addb_step (d := (Y + X + c) % 4294967296) (f := (Y + X + c) / 4294967296) (by omega : j + i < o.length) gy gx (by omega) hv
    refine awp_x prog_ok hP hnt [(221, .int .i64 (j + i : Nat)), (225, .int .i64 (j + i : Nat))] [.val (.tup [.d (.int .u32 ((Y + X + c) % 4294967296 : Nat)), .d (.int .u32 ((Y + X + c) / 4294967296 : Nat))])] [some [.int .u32 Y]] [4, 6, 10, 11, 12, 13, 14, 15, 25, 210, 211, 212] (by kernel_rfl) (G := fun K => IntKind.i64.wrap ((↑i : Int) + (↑j : Int)) = (↑(j + i) : Int) ∧ IntKind.i64.wrap ((↑i : Int) + (↑j : Int)) = (↑(j + i) : Int) ∧ ((0 : Int) ≤ (↑(j + i) : Int) ∧ (↑(j + i) : Int) < (↑(k0 + (m + 2)) : Int)) ∧ (u32s o)[0 + (↑(j + i) : Int).toNat * 1]? = some (D.int IntKind.u32 (↑Y : Int)) ∧ Fn Try.prog 228 [V.d (D.int IntKind.u32 (↑Y : Int)), V.d (D.int IntKind.u32 (↑X : Int)), V.d (D.int IntKind.u32 (↑c : Int))] [] (V.tup [V.d (D.int IntKind.u32 (↑((Y + X + c) % 4294967296) : Int)), V.d (D.int IntKind.u32 (↑((Y + X + c) / 4294967296) : Int))]) [] ∧ ((0 : Int) ≤ (↑(j + i) : Int) ∧ (↑(j + i) : Int) < (↑(k0 + (m + 2)) : Int)) ∧ 0 + (↑(j + i) : Int).toNat * 1 + [D.int IntKind.u32 (↑((Y + X + c) % 4294967296) : Int)].length ≤ (u32s o).length ∧ K (St.mk [(4, V.own 1 0 k0 1), (6, V.d (D.int IntKind.i64 (↑(m + 2) : Int))), (10, V.d (D.int IntKind.i64 (↑s : Int))), (11, V.d (du v)), (12, V.own 0 0 (k0 + (m + 2)) 1), (13, V.d (D.int IntKind.u64 (↑t : Int))), (14, V.d (D.int IntKind.u64 (↑x : Int))), (15, V.d (D.int IntKind.i64 (↑j : Int))), (25, V.d (D.int IntKind.u32 (↑((Y + X + c) / 4294967296) : Int))), (210, V.d (du v)), (211, V.d (D.int IntKind.i64 (↑(m + 2) : Int))), (212, V.d (D.int IntKind.i64 (↑i : Int)))] [(0, some (Blk.mk (setCells (u32s o) (0 + (↑(j + i) : Int).toNat * 1) [D.int IntKind.u32 (↑((Y + X + c) % 4294967296) : Int)]) true)), (1, some (Blk.mk (u32s q) true))] 27)) (fun K => by kernel_rfl) ?_
    refine ⟨hji, hji, ⟨by omega, by omega⟩, by rw [Int.toNat_natCast, Nat.zero_add, Nat.mul_one, u32s_get, goy]; rfl, h32, ⟨by omega, by omega⟩, by simp; omega, hK2 _ ?_⟩
    refine awp_x prog_ok hP hnt [(234, .int .i64 (i + 1 : Nat))] [] [] [4, 6, 10, 11, 12, 13, 14, 15, 25, 210, 211, 212] (by kernel_rfl) (G := fun K => IntKind.i64.wrap ((↑i : Int) + (1 : Int)) = (↑(i + 1) : Int) ∧ K (St.mk [(4, V.own 1 0 k0 1), (6, V.d (D.int IntKind.i64 (↑(m + 2) : Int))), (10, V.d (D.int IntKind.i64 (↑s : Int))), (11, V.d (du v)), (12, V.own 0 0 (k0 + (m + 2)) 1), (13, V.d (D.int IntKind.u64 (↑t : Int))), (14, V.d (D.int IntKind.u64 (↑x : Int))), (15, V.d (D.int IntKind.i64 (↑j : Int))), (25, V.d (D.int IntKind.u32 (↑((Y + X + c) / 4294967296) : Int))), (210, V.d (du v)), (211, V.d (D.int IntKind.i64 (↑(m + 2) : Int))), (212, V.d (D.int IntKind.i64 (↑(i + 1) : Int)))] [(0, some (Blk.mk (setCells (u32s o) (0 + (↑(j + i) : Int).toNat * 1) [D.int IntKind.u32 (↑((Y + X + c) % 4294967296) : Int)]) true)), (1, some (Blk.mk (u32s q) true))] 29)) (fun K => by kernel_rfl) ?_
    refine ⟨by rw [w64] <;> omega, (i + 1, o.set (j + i) ((Y + X + c) % 4294967296), (Y + X + c) / 4294967296), [(0, 0), (1, 1)], ⟨⟨by omega, by simp [hol], dg_set hod (by omega), ?_, by omega, hstep⟩, by show m + 2 - (i + 1) < m + 2 - i; omega⟩, ?_⟩
    · rw [drop_set_lt (by omega), ← Nat.add_assoc, ← List.drop_drop, hdr, List.drop_drop]
    · rw [Int.toNat_natCast, Nat.zero_add, Nat.mul_one, setCells_u32]
      (constructor <;> simp [hl, envOk, memOk, conv, St.get, St.blk])
  · simp at e
    have hi2 : i = m + 2 := by omega
    subst hi2
    refine ⟨hol, hod, hdr, hc, ?_⟩
    rwa [show v.take (m + 2) = v from List.take_of_length_le (by omega)] at hv
  · (constructor <;> simp [hl, envOk, memOk, conv, St.get, St.blk])
end Go.Abs

set_option linter.unusedVariables false
set_option linter.unusedSimpArgs false
namespace Go.Abs
open Go Go.Proofs
set_option maxRecDepth 100000

theorem take_small {u : List Nat} {n : Nat} (hn : n ≤ u.length) (h : val u < 4294967296 ^ n) : val (u.take n) = val u := by
  have h7 := val_append (u.take n) (u.drop n)
  rw [List.take_append_drop, List.length_take, Nat.min_eq_left hn] at h7
  obtain ⟨P, hP⟩ : ∃ P, P = 4294967296 ^ n := ⟨_, rfl⟩
  rw [← hP] at h7 h
  rcases Nat.eq_zero_or_pos (val (u.drop n)) with h8 | h8
  · rw [h7, h8, Nat.mul_zero, Nat.add_zero]
  · have := Nat.mul_le_mul_left P h8
    omega

theorem val_set_at : ∀ {l : List Nat} {i x : Nat}, l[i]? = some x → ∀ y, val (l.set i y) + 4294967296 ^ i * x = val l + 4294967296 ^ i * y
  | [], i, x, h, y => by simp at h
  | d :: l, 0, x, h, y => by
    simp at h
    subst h
    simp only [List.set_cons_zero, val, Nat.pow_zero, Nat.one_mul]
    omega
  | d :: l, i + 1, x, h, y => by
    have ih := val_set_at (l := l) (i := i) (x := x) (by simpa using h) y
    simp only [List.set_cons_succ, val, Nat.pow_succ]
    generalize 4294967296 ^ i = A at *
    grind

theorem val_split {l : List Nat} {n : Nat} (h : n ≤ l.length) : val l = val (l.take n) + 4294967296 ^ n * val (l.drop n) := by
  have h7 := val_append (l.take n) (l.drop n)
  rwa [List.take_append_drop, List.length_take, Nat.min_eq_left h] at h7

theorem val_lt_of_drop {l u : List Nat} {n : Nat} (hl : Dg l) (hu : Dg u) (hln : n ≤ l.length) (h : l.drop n = u.drop n) (hs : val u < 4294967296 ^ n) : val l < 4294967296 ^ n := by
  have h1 := val_split hln
  have h2 := val_drop hu n
  rw [Nat.div_eq_of_lt hs, ← h] at h2
  rw [h1, h2, Nat.mul_zero, Nat.add_zero]
  exact val_take_lt hl n

noncomputable abbrev longBlock : Code := part' [true, true, true, true, true, true, true, true, true, true, true, true, false, true, true, true, true, false] (Try.f240.body.getD .skip)

set_option maxHeartbeats 2000000 in
theorem digit_loop {Cx : Ctx} (hP : Cx.P = Try.prog) (hnt : Cx.nt = 251) (hl : Cx.lids = []) {Q : Exit → St → Prop} {m k0 s : Nat} {v u q : List Nat} {t x j A V : Nat}
    (hjk : j < k0) (hul : u.length = k0 + (m + 2)) (hud : Dg u) (hvd : Dg v) (hvv : val v = V) (ht4 : v.length = m + 2) (hmk : k0 + (m + 2) ≤ 2 ^ 40)
    (hql : q.length = k0) (hqd : Dg q) (hq0 : q.take (j + 1) = List.replicate (j + 1) 0) (hAv : A = val q * V + val u) (hult : val u < V * 4294967296 ^ (j + 1))
    (htv : v[m + 1]? = some t) (hxv : v[m]? = some x) (ht0 : 0 < t) :
    AWP Cx longBlock (longSt m k0 s v u q t x j [])
      (thenQ (fun s' => ∃ (z : List Nat × List Nat) (ρ : List (Nat × Nat)), (z.1.length = k0 + (m + 2) ∧ Dg z.1 ∧ z.2.length = k0 ∧ Dg z.2 ∧ z.2.take j = List.replicate j 0 ∧ A = val z.2 * V + val z.1 ∧ val z.1 < V * 4294967296 ^ j) ∧
        Weak Cx.lids ρ s' (longSt m k0 s v z.1 z.2 t x j [])) Q) := by
  obtain ⟨U0, g0⟩ := get_ex (l := u) (i := j + m + 2) (by omega)
  obtain ⟨U1, g1⟩ := get_ex (l := u) (i := j + m + 1) (by omega)
  obtain ⟨U2, g2⟩ := get_ex (l := u) (i := j + m) (by omega)
  have hVn : V < 4294967296 ^ (m + 2) := by have := val_lt hvd; rwa [hvv, ht4] at this
  have hpE : 0 < 4294967296 ^ j := Nat.pow_pos (by omega)
  have hult' : val u < V * (4294967296 * 4294967296 ^ j) := by rwa [Nat.pow_succ, Nat.mul_comm (4294967296 ^ j)] at hult
  have hutop : val u < 4294967296 ^ (j + m + 3) := by
    have h1 := Nat.mul_lt_mul_of_pos_right hVn (show 0 < 4294967296 * 4294967296 ^ j by omega)
    have h2 : 4294967296 ^ (m + 2) * (4294967296 * 4294967296 ^ j) = 4294967296 ^ (j + m + 3) := by
      rw [Nat.mul_comm 4294967296, ← Nat.pow_succ, ← Nat.pow_add]; congr 1; omega
    rw [h2] at h1
    exact Nat.lt_trans hult' h1
  have hutk : val (u.take (j + m + 3)) = val u := take_small (by omega) hutop
  have hG := gs_of (j := j) hud hvd ht4 htv hxv g0 g1 g2 hutk (by rw [hvv]; exact hult') ht0
  rw [hvv] at hG
  have hU0 := hG.u0b
  have hU1 := hG.u1b
  have hU2 := hG.u2b
  have htb := hG.tb
  have gu0 : (u32s u)[0 + ((j + m + 2 : Nat) : Int).toNat * 1]? = some (D.int .u32 U0) := by rw [Int.toNat_natCast, Nat.zero_add, Nat.mul_one, u32s_get, g0]; rfl
  have gu1 : (u32s u)[0 + ((j + m + 1 : Nat) : Int).toNat * 1]? = some (D.int .u32 U1) := by rw [Int.toNat_natCast, Nat.zero_add, Nat.mul_one, u32s_get, g1]; rfl
  have e1 := shl32 hU0
  have e2 := or_w hU0 hU1
  have hj2 : IntKind.i64.wrap ((j : Int) + (m + 2 : Nat)) = (j + m + 2 : Nat) := by rw [w64] <;> omega
  have hj1 : IntKind.i64.wrap (IntKind.i64.wrap ((j : Int) + (m + 2 : Nat)) - 1) = (j + m + 1 : Nat) := by rw [hj2, w64] <;> omega
  obtain ⟨N, hN⟩ : ∃ N, N = U0 * 4294967296 + U1 := ⟨_, rfl⟩
  have hN64 : N < 18446744073709551616 := by omega
  rw [← hN] at e2
  have hdv := div64_fn N t ht0 hN64 (by omega)
  have hgN : N / t * t + N % t = N := by rw [Nat.mul_comm]; exact Nat.div_add_mod _ _
  have hrt : N % t < t := Nat.mod_lt _ ht0
  obtain ⟨gg, hgg⟩ : ∃ gg, gg = N / t := ⟨_, rfl⟩
  obtain ⟨rr, hrr⟩ : ∃ rr, rr = N % t := ⟨_, rfl⟩
  rw [← hgg, ← hrr] at hdv hgN
  rw [← hrr] at hrt
  refine awp_block ?_
  unfold longSt
  refine awp_sx prog_ok hP hnt [(97, .int .i64 (j + m + 2 : Nat)), (100, .int .u64 U0), (101, .int .u64 (U0 * 4294967296 : Nat)), (106, .int .i64 (j + m + 1 : Nat)), (109, .int .u64 U1), (110, .int .u64 N)] [.val (.tup [.d (.int .u64 gg), .d (.int .u64 rr)])] [some [.int .u32 U0], some [.int .u32 U1]] [4, 6, 10, 11, 12, 13, 14, 15, 16, 17] (by kernel_rfl) (G := fun K => IntKind.i64.wrap ((↑j : Int) + (↑(m + 2) : Int)) = (↑(j + m + 2) : Int) ∧ ((0 : Int) ≤ (↑(j + m + 2) : Int) ∧ (↑(j + m + 2) : Int) < (↑(k0 + (m + 2)) : Int)) ∧ (u32s u)[0 + (↑(j + m + 2) : Int).toNat * 1]? = some (D.int IntKind.u32 (↑U0 : Int)) ∧ IntKind.u64.wrap (↑U0 : Int) = (↑U0 : Int) ∧ (0 : Int) ≤ (32 : Int) ∧ IntKind.u64.wrap ((↑U0 : Int) * (2 : Int) ^ min (Int.toNat (32 : Int)) IntKind.u64.bits) = (↑(U0 * 4294967296) : Int) ∧ IntKind.i64.wrap (IntKind.i64.wrap ((↑j : Int) + (↑(m + 2) : Int)) - (1 : Int)) = (↑(j + m + 1) : Int) ∧ ((0 : Int) ≤ (↑(j + m + 1) : Int) ∧ (↑(j + m + 1) : Int) < (↑(k0 + (m + 2)) : Int)) ∧ (u32s u)[0 + (↑(j + m + 1) : Int).toNat * 1]? = some (D.int IntKind.u32 (↑U1 : Int)) ∧ IntKind.u64.wrap (↑U1 : Int) = (↑U1 : Int) ∧ IntKind.u64.wrap (↑(BitVec.ofInt IntKind.u64.bits (↑(U0 * 4294967296) : Int) ||| BitVec.ofInt IntKind.u64.bits (↑U1 : Int)).toNat : Int) = (↑N : Int) ∧ Fn Try.prog 249 [Abs.V.d (D.int IntKind.u64 (0 : Int)), Abs.V.d (D.int IntKind.u64 (↑N : Int)), Abs.V.d (D.int IntKind.u64 (↑t : Int))] [] (Abs.V.tup [Abs.V.d (D.int IntKind.u64 (↑gg : Int)), Abs.V.d (D.int IntKind.u64 (↑rr : Int))]) [] ∧ K (St.mk [(4, Abs.V.own 1 0 k0 1), (6, Abs.V.d (D.int IntKind.i64 (↑(m + 2) : Int))), (10, Abs.V.d (D.int IntKind.i64 (↑s : Int))), (11, Abs.V.d (du v)), (12, Abs.V.own 0 0 (k0 + (m + 2)) 1), (13, Abs.V.d (D.int IntKind.u64 (↑t : Int))), (14, Abs.V.d (D.int IntKind.u64 (↑x : Int))), (15, Abs.V.d (D.int IntKind.i64 (↑j : Int))), (16, Abs.V.d (D.int IntKind.u64 (↑gg : Int))), (17, Abs.V.d (D.int IntKind.u64 (↑rr : Int)))] [(0, some (Blk.mk (u32s u) true)), (1, some (Blk.mk (u32s q) true))] 26)) (fun K => by kernel_rfl) ?_
  refine ⟨hj2, ⟨by omega, by omega⟩, gu0, u64w (by omega) (by omega), by omega, e1, hj1, ⟨by omega, by omega⟩, gu1, u64w (by omega) (by omega), e2, hdv, ?_⟩
  refine awp_cut (ι := Nat) (fun g => longSt m k0 s v u q t x j [(16, .d (.int .u64 g))]) (fun g => g < 4294967296 ∧ val u < (g + 1) * V * 4294967296 ^ j ∧ g * V * 4294967296 ^ j < val u + V * 4294967296 ^ j)
    (awp_weak [(0, 0), (1, 1)] (longSt m k0 s v u q t x j [(16, .d (.int .u64 gg)), (17, .d (.int .u64 rr))]) ?_ (guess_loop hP hnt hl hG hjk hul hmk g2 (hN ▸ hgN) hrt)) ?_
  · unfold longSt
    (constructor <;> simp [hl, envOk, memOk, conv, St.get, St.blk])
  intro g ⟨hg32, hgU, hgU2⟩
  unfold longSt
  refine awp_sx prog_ok hP hnt [] [] [] [4, 6, 10, 11, 12, 13, 14, 15, 16, 18, 19] (by kernel_rfl) (G := fun K => K (St.mk [(4, Abs.V.own 1 0 k0 1), (6, Abs.V.d (D.int IntKind.i64 (↑(m + 2) : Int))), (10, Abs.V.d (D.int IntKind.i64 (↑s : Int))), (11, Abs.V.d (du v)), (12, Abs.V.own 0 0 (k0 + (m + 2)) 1), (13, Abs.V.d (D.int IntKind.u64 (↑t : Int))), (14, Abs.V.d (D.int IntKind.u64 (↑x : Int))), (15, Abs.V.d (D.int IntKind.i64 (↑j : Int))), (16, Abs.V.d (D.int IntKind.u64 (↑g : Int))), (18, Abs.V.d (D.int IntKind.u64 (0 : Int))), (19, Abs.V.d (D.int IntKind.u64 (0 : Int)))] [(0, some (Blk.mk (u32s u) true)), (1, some (Blk.mk (u32s q) true))] 4)) (fun K => by kernel_rfl) ?_
  refine awp_cut (ι := List Nat × Nat × Nat) (fun z => longSt m k0 s v z.1 q t x j [(16, .d (.int .u64 g)), (18, .d (.int .u64 z.2.1)), (19, .d (.int .u64 z.2.2))]) (fun z => z.1.length = u.length ∧ Dg z.1 ∧ z.1.drop (j + (m + 2)) = u.drop (j + (m + 2)) ∧ z.2.1 < 4294967296 ∧ z.2.2 ≤ 1 ∧
        val (z.1.take (j + (m + 2))) + 4294967296 ^ j * (g * val v) = val (u.take (j + (m + 2))) + 4294967296 ^ (j + (m + 2)) * (z.2.1 + z.2.2))
    (awp_weak [(0, 0), (1, 1)] (longSt m k0 s v u q t x j [(16, .d (.int .u64 g)), (18, .d (.int .u64 (0 : Nat))), (19, .d (.int .u64 (0 : Nat)))]) ?_ (sub_loop hP hnt hl hud hvd hjk hul ht4 hmk hg32)) ?_
  · unfold longSt
    (constructor <;> simp [hl, envOk, memOk, conv, St.get, St.blk])
  rintro ⟨o, c, w⟩ ⟨ho1, ho2, ho3, ho4, ho5, ho6⟩
  unfold longSt
  obtain ⟨n, hn⟩ : ∃ n, n = j + (m + 2) := ⟨_, rfl⟩
  simp only at ho1 ho2 ho3 ho4 ho5 ho6
  have hjn : IntKind.i64.wrap ((j : Int) + (m + 2 : Nat)) = (n : Nat) := by rw [w64] <;> omega
  have hgn : u[n]? = some U0 := by rw [hn, ← Nat.add_assoc]; exact g0
  rw [← hn] at ho3 ho6
  have hon : o[n]? = some U0 := by rw [get_drop_eq ho3 (Nat.le_refl _)]; exact hgn
  have hvo : val o + 4294967296 ^ j * (g * V) = val u + 4294967296 ^ n * (c + w) := by
    have h1 := val_split (l := o) (n := n) (by omega)
    have h2 := val_split (l := u) (n := n) (by omega)
    rw [hvv] at ho6
    rw [h1, h2, ho3]
    omega
  obtain ⟨d, f, hd1, hf1, hf2, hd2, hd3⟩ := sub_word hU0 ho5 ho4 rfl
  have hT : IntKind.u64.wrap (IntKind.u64.wrap ((U0 : Int) - w) - c) = ((U0 : Int) - w - c) % 18446744073709551616 := by
    rw [IntKind.wrap_u64, IntKind.wrap_u64]; omega
  obtain ⟨T, hT0⟩ : ∃ T : Nat, (T : Int) = ((U0 : Int) - w - c) % 18446744073709551616 := ⟨(((U0 : Int) - w - c) % 18446744073709551616).toNat, by omega⟩
  rw [← hT0] at hT hd1 hf1
  have hso := val_set_at hon d
  have hso2 : val (o.set n d) + 4294967296 ^ j * (g * V) = val u + 4294967296 ^ (n + 1) * f := by
    rw [Nat.pow_succ]
    generalize 4294967296 ^ n = C at *
    generalize 4294967296 ^ j = E at *
    have : C * (d + w + c) = C * (U0 + 4294967296 * f) := by rw [hd3]
    grind
  have hutop' : val u < 4294967296 ^ (n + 1) := by rw [hn, show j + (m + 2) + 1 = j + m + 3 by omega]; exact hutop
  have hdo : (o.set n d).drop (n + 1) = u.drop (n + 1) := by
    rw [drop_set_lt (by omega), ← List.drop_drop, ho3, List.drop_drop]
  have ho1d := dg_set (i := n) ho2 hd2
  have hqj : q[j]? = some 0 := by
    have : (q.take (j + 1))[j]? = some 0 := by rw [hq0]; simp
    rwa [List.getElem?_take, if_pos (by omega)] at this
  have hsh : (T : Int).fdiv (2 ^ (min (Int.toNat 63) IntKind.u64.bits)) = (f : Int) := by
    show (T : Int).fdiv (2 ^ 63) = _
    rw [fdivN]; omega
  have hqt : q.take j = List.replicate j 0 := by
    have := congrArg (List.take j) hq0
    rwa [List.take_take, List.take_replicate, show min j (j + 1) = j by omega] at this
  refine awp_sx prog_ok hP hnt [(181, .int .i64 n), (184, .int .u64 U0), (188, .int .u64 T)] [] [some [.int .u32 U0]] [4, 6, 10, 11, 12, 13, 14, 15, 16, 24] (by kernel_rfl) (G := fun K => IntKind.i64.wrap ((↑j : Int) + (↑(m + 2) : Int)) = (↑n : Int) ∧ ((0 : Int) ≤ (↑n : Int) ∧ (↑n : Int) < (↑(k0 + (m + 2)) : Int)) ∧ (u32s o)[0 + (↑n : Int).toNat * 1]? = some (D.int IntKind.u32 (↑U0 : Int)) ∧ IntKind.u64.wrap (↑U0 : Int) = (↑U0 : Int) ∧ IntKind.u64.wrap (IntKind.u64.wrap ((↑U0 : Int) - (↑(c, w).snd : Int)) - (↑(c, w).fst : Int)) = (↑T : Int) ∧ K (St.mk [(4, Abs.V.own 1 0 k0 1), (6, Abs.V.d (D.int IntKind.i64 (↑(m + 2) : Int))), (10, Abs.V.d (D.int IntKind.i64 (↑s : Int))), (11, Abs.V.d (du v)), (12, Abs.V.own 0 0 (k0 + (m + 2)) 1), (13, Abs.V.d (D.int IntKind.u64 (↑t : Int))), (14, Abs.V.d (D.int IntKind.u64 (↑x : Int))), (15, Abs.V.d (D.int IntKind.i64 (↑j : Int))), (16, Abs.V.d (D.int IntKind.u64 (↑g : Int))), (24, Abs.V.d (D.int IntKind.u64 (↑T : Int)))] [(0, some (Blk.mk (u32s o) true)), (1, some (Blk.mk (u32s q) true))] 14)) (fun K => by kernel_rfl) ?_
  refine ⟨hjn, ⟨by omega, by omega⟩, by rw [Int.toNat_natCast, Nat.zero_add, Nat.mul_one, u32s_get, hon]; rfl, u64w (by omega) (by omega), hT, ?_⟩
  refine awp_sx prog_ok hP hnt [(192, .int .i64 n), (194, .int .u32 d)] [] [] [4, 6, 10, 11, 12, 13, 14, 15, 16, 24] (by kernel_rfl) (G := fun K => IntKind.i64.wrap ((↑j : Int) + (↑(m + 2) : Int)) = (↑n : Int) ∧ IntKind.u32.wrap (↑T : Int) = (↑d : Int) ∧ ((0 : Int) ≤ (↑n : Int) ∧ (↑n : Int) < (↑(k0 + (m + 2)) : Int)) ∧ 0 + (↑n : Int).toNat * 1 + [D.int IntKind.u32 (↑d : Int)].length ≤ (u32s o).length ∧ K (St.mk [(4, Abs.V.own 1 0 k0 1), (6, Abs.V.d (D.int IntKind.i64 (↑(m + 2) : Int))), (10, Abs.V.d (D.int IntKind.i64 (↑s : Int))), (11, Abs.V.d (du v)), (12, Abs.V.own 0 0 (k0 + (m + 2)) 1), (13, Abs.V.d (D.int IntKind.u64 (↑t : Int))), (14, Abs.V.d (D.int IntKind.u64 (↑x : Int))), (15, Abs.V.d (D.int IntKind.i64 (↑j : Int))), (16, Abs.V.d (D.int IntKind.u64 (↑g : Int))), (24, Abs.V.d (D.int IntKind.u64 (↑T : Int)))] [(0, some (Blk.mk (setCells (u32s o) (0 + (↑n : Int).toNat * 1) [D.int IntKind.u32 (↑d : Int)]) true)), (1, some (Blk.mk (u32s q) true))] 22)) (fun K => by kernel_rfl) ?_
  refine ⟨hjn, by rw [IntKind.wrap_u32]; omega, ⟨by omega, by omega⟩, by simp; omega, ?_⟩
  rw [Int.toNat_natCast, Nat.zero_add, Nat.mul_one, setCells_u32]
  refine awp_sx prog_ok hP hnt [(199, .int .u32 g)] [] [] [4, 6, 10, 11, 12, 13, 14, 15, 24] (by kernel_rfl) (G := fun K => IntKind.u32.wrap (↑g : Int) = (↑g : Int) ∧ ((0 : Int) ≤ (↑j : Int) ∧ (↑j : Int) < (↑k0 : Int)) ∧ 0 + (↑j : Int).toNat * 1 + [D.int IntKind.u32 (↑g : Int)].length ≤ (u32s q).length ∧ K (St.mk [(4, Abs.V.own 1 0 k0 1), (6, Abs.V.d (D.int IntKind.i64 (↑(m + 2) : Int))), (10, Abs.V.d (D.int IntKind.i64 (↑s : Int))), (11, Abs.V.d (du v)), (12, Abs.V.own 0 0 (k0 + (m + 2)) 1), (13, Abs.V.d (D.int IntKind.u64 (↑t : Int))), (14, Abs.V.d (D.int IntKind.u64 (↑x : Int))), (15, Abs.V.d (D.int IntKind.i64 (↑j : Int))), (24, Abs.V.d (D.int IntKind.u64 (↑T : Int)))] [(0, some (Blk.mk (u32s (o.set n d)) true)), (1, some (Blk.mk (setCells (u32s q) (0 + (↑j : Int).toNat * 1) [D.int IntKind.u32 (↑g : Int)]) true))] 28)) (fun K => by kernel_rfl) ?_
  refine ⟨u32w (by omega) (by omega), ⟨by omega, by omega⟩, by simp; omega, ?_⟩
  rw [Int.toNat_natCast, Nat.zero_add, Nat.mul_one, setCells_u32]
  refine awp_seq_k fun K hK => ?_
  refine awp_sx prog_ok hP hnt [(202, .int .u64 f)] [] [] [4, 6, 10, 11, 12, 13, 14, 15, 203] (by kernel_rfl) (G := fun K => (0 : Int) ≤ (63 : Int) ∧ (↑T : Int).fdiv ((2 : Int) ^ min (Int.toNat (63 : Int)) IntKind.u64.bits) = (↑f : Int) ∧ K (St.mk [(4, Abs.V.own 1 0 k0 1), (6, Abs.V.d (D.int IntKind.i64 (↑(m + 2) : Int))), (10, Abs.V.d (D.int IntKind.i64 (↑s : Int))), (11, Abs.V.d (du v)), (12, Abs.V.own 0 0 (k0 + (m + 2)) 1), (13, Abs.V.d (D.int IntKind.u64 (↑t : Int))), (14, Abs.V.d (D.int IntKind.u64 (↑x : Int))), (15, Abs.V.d (D.int IntKind.i64 (↑j : Int))), (203, Abs.V.d (D.bool ((↑f : Int) == (0 : Int))))] [(0, some (Blk.mk (u32s (o.set n d)) true)), (1, some (Blk.mk (u32s (q.set j g)) true))] 31)) (fun K => by kernel_rfl) ?_
  refine ⟨by omega, hsh, awp_cond rfl (fun e => awp_exit ⟨(o.set n d, q.set j g), [(0, 0), (1, 1)], ?_, ?_⟩) (fun e => awp_skip (hK _ ?_))⟩
  · simp at e
    have hf0 : f = 0 := by omega
    subst hf0
    rw [Nat.mul_zero, Nat.add_zero] at hso2
    have hsq := val_set_at hqj g
    rw [Nat.mul_zero, Nat.add_zero] at hsq
    refine ⟨by simp [ho1, hul], ho1d, by simp [hql], dg_set hqd hg32, by rw [take_set_le _ (Nat.le_refl _)]; exact hqt, ?_, ?_⟩
    · rw [hAv, hsq, ← hso2]
      show _ = (val q + 4294967296 ^ j * g) * V + val (o.set n d)
      generalize 4294967296 ^ j = E
      grind
    · show val (o.set n d) < V * 4294967296 ^ j
      generalize 4294967296 ^ j = E at *
      have h1 : (g + 1) * V * E = E * (g * V) + V * E := by grind
      omega
  · (constructor <;> simp [hl, envOk, memOk, conv, St.get, St.blk])
  simp at e
  have hf1' : f = 1 := by omega
  subst hf1'
  rw [Nat.mul_one] at hso2
  have hlt1 : val (o.set n d) < 4294967296 ^ (n + 1) := val_lt_of_drop ho1d hud (by simp; omega) hdo hutop'
  have hg1 : 1 ≤ g := by
    rcases Nat.eq_zero_or_pos g with h | h
    · exfalso
      subst h
      rw [Nat.zero_mul, Nat.mul_zero, Nat.add_zero] at hso2
      omega
    · exact h
  have hq1l : (q.set j g).length = k0 := by simp [hql]
  have hgq : (q.set j g)[j]? = some g := by rw [List.getElem?_set_self]; omega
  have ho1l : (o.set n d).length = k0 + (m + 2) := by simp [ho1, hul]
  obtain ⟨o1, hO1⟩ : ∃ o1, o1 = o.set n d := ⟨_, rfl⟩
  have hO1n : o1[n]? = some d := by rw [hO1, List.getElem?_set_self]; omega
  rw [← hO1] at hso2 hdo ho1d hlt1 ho1l ⊢
  refine awp_sx prog_ok hP hnt [(208, .int .u32 (g - 1 : Nat))] [] [some [.int .u32 g]] [4, 6, 10, 11, 12, 13, 14, 15] (by kernel_rfl) (G := fun K => ((0 : Int) ≤ (↑j : Int) ∧ (↑j : Int) < (↑k0 : Int)) ∧ (u32s (q.set j g))[0 + (↑j : Int).toNat * 1]? = some (D.int IntKind.u32 (↑g : Int)) ∧ IntKind.u32.wrap ((↑g : Int) - (1 : Int)) = (↑(g - 1) : Int) ∧ ((0 : Int) ≤ (↑j : Int) ∧ (↑j : Int) < (↑k0 : Int)) ∧ 0 + (↑j : Int).toNat * 1 + [D.int IntKind.u32 (↑(g - 1) : Int)].length ≤ (u32s (q.set j g)).length ∧ K (St.mk [(4, Abs.V.own 1 0 k0 1), (6, Abs.V.d (D.int IntKind.i64 (↑(m + 2) : Int))), (10, Abs.V.d (D.int IntKind.i64 (↑s : Int))), (11, Abs.V.d (du v)), (12, Abs.V.own 0 0 (k0 + (m + 2)) 1), (13, Abs.V.d (D.int IntKind.u64 (↑t : Int))), (14, Abs.V.d (D.int IntKind.u64 (↑x : Int))), (15, Abs.V.d (D.int IntKind.i64 (↑j : Int)))] [(0, some (Blk.mk (u32s o1) true)), (1, some (Blk.mk (setCells (u32s (q.set j g)) (0 + (↑j : Int).toNat * 1) [D.int IntKind.u32 (↑(g - 1) : Int)]) true))] 38)) (fun K => by kernel_rfl) ?_
  refine ⟨⟨by omega, by omega⟩, by rw [Int.toNat_natCast, Nat.zero_add, Nat.mul_one, u32s_get, hgq]; rfl, by rw [IntKind.wrap_u32]; omega, ⟨by omega, by omega⟩, by simp; omega, ?_⟩
  rw [Int.toNat_natCast, Nat.zero_add, Nat.mul_one, setCells_u32, List.set_set]
  refine awp_sx prog_ok hP hnt [] [] [] [4, 6, 10, 11, 12, 13, 14, 15, 25] (by kernel_rfl) (G := fun K => K (St.mk [(4, Abs.V.own 1 0 k0 1), (6, Abs.V.d (D.int IntKind.i64 (↑(m + 2) : Int))), (10, Abs.V.d (D.int IntKind.i64 (↑s : Int))), (11, Abs.V.d (du v)), (12, Abs.V.own 0 0 (k0 + (m + 2)) 1), (13, Abs.V.d (D.int IntKind.u64 (↑t : Int))), (14, Abs.V.d (D.int IntKind.u64 (↑x : Int))), (15, Abs.V.d (D.int IntKind.i64 (↑j : Int))), (25, Abs.V.d (D.int IntKind.u32 (0 : Int)))] [(0, some (Blk.mk (u32s o1) true)), (1, some (Blk.mk (u32s (q.set j (g - 1))) true))] 39)) (fun K => by kernel_rfl) ?_
  refine awp_cut (ι := List Nat × Nat) (fun z => longSt m k0 s v z.1 (q.set j (g - 1)) t x j [(25, .d (.int .u32 z.2))]) (fun z => z.1.length = o1.length ∧ Dg z.1 ∧ z.1.drop (j + (m + 2)) = o1.drop (j + (m + 2)) ∧ z.2 ≤ 1 ∧
        val (z.1.take (j + (m + 2))) + 4294967296 ^ (j + (m + 2)) * z.2 = val (o1.take (j + (m + 2))) + 4294967296 ^ j * val v)
    (awp_weak [(0, 0), (1, 1)] (longSt m k0 s v o1 (q.set j (g - 1)) t x j [(25, .d (.int .u32 (0 : Nat)))]) ?_ (back_loop hP hnt hl ho1d hvd hjk ho1l ht4 hmk)) ?_
  · unfold longSt
    (constructor <;> simp [hl, envOk, memOk, conv, St.get, St.blk])
  rintro ⟨o2, c2⟩ ⟨b1, b2, b3, b4, b5⟩
  simp only at b1 b2 b3 b4 b5
  rw [← hn] at b3 b5
  have ho2n : o2[n]? = some d := by rw [get_drop_eq b3 (Nat.le_refl _)]; exact hO1n
  have hv2 : val o2 + 4294967296 ^ n * c2 = val o1 + 4294967296 ^ j * V := by
    have h1 := val_split (l := o2) (n := n) (by omega)
    have h2 := val_split (l := o1) (n := n) (by omega)
    rw [hvv] at b5
    rw [h1, h2, b3]
    omega
  obtain ⟨d2, hd2'⟩ : ∃ d2, d2 = (d + c2) % 4294967296 := ⟨_, rfl⟩
  obtain ⟨f2, hf2'⟩ : ∃ f2, f2 = (d + c2) / 4294967296 := ⟨_, rfl⟩
  have hdf : d + c2 = d2 + 4294967296 * f2 := by omega
  have hf21 : f2 ≤ 1 := by omega
  have hd232 : d2 < 4294967296 := by omega
  have hso3 := val_set_at ho2n d2
  have hso4 : val (o2.set n d2) + 4294967296 ^ (n + 1) * f2 = val o1 + 4294967296 ^ j * V := by
    rw [Nat.pow_succ]
    generalize 4294967296 ^ n = C at *
    generalize 4294967296 ^ j = E at *
    have : C * (d + c2) = C * (d2 + 4294967296 * f2) := by rw [hdf]
    grind
  have ho3d := dg_set (i := n) b2 hd232
  have hdo2 : (o2.set n d2).drop (n + 1) = u.drop (n + 1) := by
    rw [drop_set_lt (by omega), ← List.drop_drop, b3, List.drop_drop, hdo]
  have hlt3 : val (o2.set n d2) < 4294967296 ^ (n + 1) := val_lt_of_drop ho3d hud (by simp; omega) hdo2 hutop'
  unfold longSt
  refine awp_x prog_ok hP hnt [(238, .int .i64 n), (242, .int .u32 d2)] [] [some [.int .u32 d]] [4, 6, 10, 11, 12, 13, 14, 15] (by kernel_rfl) (G := fun K => IntKind.i64.wrap ((↑j : Int) + (↑(m + 2) : Int)) = (↑n : Int) ∧ ((0 : Int) ≤ (↑n : Int) ∧ (↑n : Int) < (↑(k0 + (m + 2)) : Int)) ∧ (u32s o2)[0 + (↑n : Int).toNat * 1]? = some (D.int IntKind.u32 (↑d : Int)) ∧ IntKind.u32.wrap ((↑d : Int) + (↑c2 : Int)) = (↑d2 : Int) ∧ ((0 : Int) ≤ (↑n : Int) ∧ (↑n : Int) < (↑(k0 + (m + 2)) : Int)) ∧ 0 + (↑n : Int).toNat * 1 + [D.int IntKind.u32 (↑d2 : Int)].length ≤ (u32s o2).length ∧ K (St.mk [(4, Abs.V.own 1 0 k0 1), (6, Abs.V.d (D.int IntKind.i64 (↑(m + 2) : Int))), (10, Abs.V.d (D.int IntKind.i64 (↑s : Int))), (11, Abs.V.d (du v)), (12, Abs.V.own 0 0 (k0 + (m + 2)) 1), (13, Abs.V.d (D.int IntKind.u64 (↑t : Int))), (14, Abs.V.d (D.int IntKind.u64 (↑x : Int))), (15, Abs.V.d (D.int IntKind.i64 (↑j : Int)))] [(0, some (Blk.mk (setCells (u32s o2) (0 + (↑n : Int).toNat * 1) [D.int IntKind.u32 (↑d2 : Int)]) true)), (1, some (Blk.mk (u32s (q.set j (g - 1))) true))] 12)) (fun K => by kernel_rfl) ?_
  refine ⟨hjn, ⟨by omega, by omega⟩, by rw [Int.toNat_natCast, Nat.zero_add, Nat.mul_one, u32s_get, ho2n]; rfl, by rw [IntKind.wrap_u32]; omega, ⟨by omega, by omega⟩, by simp; omega, ?_⟩
  rw [Int.toNat_natCast, Nat.zero_add, Nat.mul_one, setCells_u32]
  refine ⟨(o2.set n d2, q.set j (g - 1)), [(0, 0), (1, 1)], ?_, ?_⟩
  · have hsq := val_set_at hqj (g - 1)
    rw [Nat.mul_zero, Nat.add_zero] at hsq
    have key : val (o2.set n d2) + 4294967296 ^ j * ((g - 1) * V) = val u := by
      have h1 : 4294967296 ^ j * (g * V) = 4294967296 ^ j * ((g - 1) * V) + 4294967296 ^ j * V := by
        obtain ⟨g', rfl⟩ : ∃ g', g = g' + 1 := ⟨g - 1, by omega⟩
        rw [Nat.add_sub_cancel]
        generalize 4294967296 ^ j = E
        grind
      have h2 : g * V * 4294967296 ^ j = 4294967296 ^ j * (g * V) := Nat.mul_comm _ _
      have h3 : V * 4294967296 ^ j = 4294967296 ^ j * V := Nat.mul_comm _ _
      obtain ⟨C, hC⟩ : ∃ C, C = 4294967296 ^ (n + 1) := ⟨_, rfl⟩
      obtain ⟨X, hX⟩ : ∃ X, X = 4294967296 ^ j * ((g - 1) * V) := ⟨_, rfl⟩
      obtain ⟨Y, hY⟩ : ∃ Y, Y = 4294967296 ^ j * V := ⟨_, rfl⟩
      obtain ⟨Z, hZ⟩ : ∃ Z, Z = 4294967296 ^ j * (g * V) := ⟨_, rfl⟩
      rw [← hZ, ← hX, ← hY] at h1
      rw [h2, h3, ← hZ, ← hY] at hgU2
      rw [← hC] at hso4 hso2 hlt3
      rw [← hZ] at hso2
      rw [← hY] at hso4
      rw [← hX]
      have hf : f2 = 1 := by
        rcases Nat.eq_zero_or_pos f2 with h | h
        · subst h; rw [Nat.mul_zero, Nat.add_zero] at hso4; omega
        · omega
      rw [hf, Nat.mul_one] at hso4
      omega
    refine ⟨by simp [b1, ho1l], ho3d, by simp [hql], dg_set hqd (by omega), by rw [take_set_le _ (Nat.le_refl _)]; exact hqt, ?_, ?_⟩
    · rw [hAv, hsq, ← key]
      show _ = (val q + 4294967296 ^ j * (g - 1)) * V + val (o2.set n d2)
      generalize 4294967296 ^ j = E
      grind
    · show val (o2.set n d2) < V * 4294967296 ^ j
      have h4 : g * V * 4294967296 ^ j = 4294967296 ^ j * ((g - 1) * V) + V * 4294967296 ^ j := by
        obtain ⟨g', rfl⟩ : ∃ g', g = g' + 1 := ⟨g - 1, by omega⟩
        rw [Nat.add_sub_cancel]
        generalize 4294967296 ^ j = E
        grind
      have h5 : g * V * 4294967296 ^ j = 4294967296 ^ j * (g * V) := Nat.mul_comm _ _
      obtain ⟨C, hC⟩ : ∃ C, C = 4294967296 ^ (n + 1) := ⟨_, rfl⟩
      obtain ⟨Z, hZ⟩ : ∃ Z, Z = 4294967296 ^ j * (g * V) := ⟨_, rfl⟩
      rw [← hC] at hso2 hlt1
      rw [← hZ] at hso2 h5
      rw [h5] at h4
      omega
  · (constructor <;> simp [hl, envOk, memOk, conv, St.get, St.blk])
end Go.Abs

set_option linter.unusedVariables false
set_option linter.unusedSimpArgs false
namespace Go.Abs
open Go Go.Proofs
set_option maxRecDepth 100000

theorem shl_fn (l : List Nat) (s : Nat) (h : l.length ≤ 2 ^ 39) (hd : Dg l) (hs : s ≤ 16777216) :
    Fn Try.prog 154 [.d (du l), .d (.int .i64 s)] [] (.d (du (dig (val l * 2 ^ s)))) [] := by
  have := (shlO_fn l s h hd hs 0).freeze
  rwa [Nat.mul_one, own_du rfl] at this

/-- the digits of a divisor that is shifted until its top bit is 1 -/
theorem dig_shl {b : Nat} (hb : b ≠ 0) : ∃ t, (dig b)[(dig b).length - 1]? = some t ∧ t < 4294967296 ∧ blen t ≤ 32 ∧ (dig (b * 2 ^ (32 - blen t))).length = (dig b).length := by
  obtain ⟨t, h1, h2, h3, h4⟩ := dig_top hb
  have hp : 0 < (dig b).length := by have := mt dig_len0.1 hb; omega
  have hbl : blen t ≤ 32 := blen_iff.2 h3
  refine ⟨t, h1, h3, hbl, ?_⟩
  have hge := dig_ge (n := b) (k := (dig b).length - 1) (by omega)
  have hlt := blen_lt t
  have hub : b < (t + 1) * 4294967296 ^ ((dig b).length - 1) := by
    have hpw : 0 < 4294967296 ^ ((dig b).length - 1) := Nat.pow_pos (by omega)
    rw [h4]
    exact (Nat.div_lt_iff_lt_mul hpw).1 (Nat.lt_succ_self _)
  apply Nat.le_antisymm
  · refine dig_len ?_
    have e : 4294967296 ^ (dig b).length = 4294967296 ^ ((dig b).length - 1) * (2 ^ blen t * 2 ^ (32 - blen t)) := by
      rw [← Nat.pow_add, show blen t + (32 - blen t) = 32 by omega, show (2 : Nat) ^ 32 = 4294967296 from rfl, ← Nat.pow_succ]
      congr 1; omega
    have h5 : b * 2 ^ (32 - blen t) < (t + 1) * 4294967296 ^ ((dig b).length - 1) * 2 ^ (32 - blen t) := Nat.mul_lt_mul_of_pos_right hub (Nat.pow_pos (by omega))
    have h6 : (t + 1) * 4294967296 ^ ((dig b).length - 1) * 2 ^ (32 - blen t) ≤ 2 ^ blen t * 4294967296 ^ ((dig b).length - 1) * 2 ^ (32 - blen t) :=
      Nat.mul_le_mul_right _ (Nat.mul_le_mul_right _ hlt)
    rw [e]
    have h7 : 2 ^ blen t * 4294967296 ^ ((dig b).length - 1) * 2 ^ (32 - blen t) = 4294967296 ^ ((dig b).length - 1) * (2 ^ blen t * 2 ^ (32 - blen t)) := by
      generalize 4294967296 ^ ((dig b).length - 1) = z
      grind
    omega
  · rcases Nat.lt_or_ge (dig (b * 2 ^ (32 - blen t))).length (dig b).length with h | h
    · exfalso
      have h8 := dig_lt_of_len (n := b * 2 ^ (32 - blen t)) (k := (dig b).length - 1) (by omega)
      have h9 : b * 1 ≤ b * 2 ^ (32 - blen t) := Nat.mul_le_mul_left _ (Nat.pow_pos (by omega))
      omega
    · exact h

set_option maxHeartbeats 2000000 in
theorem long_fn (a b : List Nat) (ha : a.length ≤ 2 ^ 38) (hb : b.length ≤ 2 ^ 38) (da : Dg a) (db : Dg b) (h0 : val b ≠ 0) :
    Fn Try.prog 240 [.d (du a), .d (du b)] [] (.tup [.d (du (dig (val a / val b))), .d (du (dig (val a % val b)))]) [] := by
  refine fn0 (nt := 251) (res := [.tmp 4, .tmp 5]) Try.func240 rfl (by decide) rfl rfl rfl rfl ?_
  intro Cx hP hnt hl
  have hnb := nnorm_fn b (by omega) db
  have hlb := dig_le db
  obtain ⟨B, hB⟩ : ∃ B, B = val b := ⟨_, rfl⟩
  rw [← hB] at hnb hlb h0 ⊢
  have hBd := dig_lt B
  have hBv := val_dig B
  have hcmp := cmp_fn a (dig B) (by omega) (by omega) da hBd
  have hna := nnorm_fn a (by omega) da
  have hla := dig_le da
  rw [hBv] at hcmp
  refine awp_sx prog_ok hP hnt [] [] [] [0, 1] (by kernel_rfl) (G := fun K => K (St.mk [(0, V.d (du a)), (1, V.d (du b))] [] 2)) (fun K => by kernel_rfl) ?_
  refine awp_scope ?_
  refine awp_sx prog_ok hP hnt [] [.val (.d (du (dig B)))] [] [0, 1] (by kernel_rfl) (G := fun K => Fn Try.prog 230 [V.d (du b)] [] (V.d (du (dig B))) [] ∧ K (St.mk [(0, V.d (du a)), (1, V.d (du (dig B)))] [] 5)) (fun K => by kernel_rfl) ?_
  refine ⟨hnb, ?_⟩
  refine awp_seq_k fun K hK => ?_
  refine awp_sx prog_ok hP hnt [] [.val (.d (.int .i64 (cmpI (val a) B)))] [] [0, 1, 33] (by kernel_rfl) (G := fun K => Fn Try.prog 153 [V.d (du a), V.d (du (dig B))] [] (V.d (D.int IntKind.i64 (cmpI (val a) B))) [] ∧ K (St.mk [(0, V.d (du a)), (1, V.d (du (dig B))), (33, V.d (D.bool (decide (cmpI (val a) B < (0 : Int)))))] [] 9)) (fun K => by kernel_rfl) ?_
  refine ⟨hcmp, ?_⟩
  refine awp_cond rfl (fun e => ?_) (fun e => awp_skip (hK _ ?_))
  · have hlt : val a < B := by
      simp only [cmpI] at e
      split at e
      · simp at e
      · split at e
        · assumption
        · simp at e
    refine awp_sx prog_ok hP hnt [] [.val (.d (du (dig (val a))))] [] [4, 5] (by kernel_rfl) (G := fun K => Fn Try.prog 230 [V.d (du a)] [] (V.d (du (dig (val a)))) [] ∧ K (St.mk [(4, V.nil), (5, V.d (du (dig (val a))))] [] 13)) (fun K => by kernel_rfl) ?_
    rw [Nat.div_eq_of_lt hlt, Nat.mod_eq_of_lt hlt, dig_zero]
    exact ⟨hna, awp_ret ⟨.inl rfl, ret2Nil rfl rfl⟩⟩
  have hge : B ≤ val a := by
    rcases Nat.lt_or_ge (val a) B with h | h
    · rw [cmpI_lt h] at e; simp at e
    · exact h
  refine awp_sx prog_ok hP hnt [] [] [] [0, 1, 6] (by kernel_rfl) (G := fun K => K (St.mk [(0, V.d (du a)), (1, V.d (du (dig B))), (6, V.d (D.int IntKind.i64 (↑(dig B).length : Int)))] [] 12)) (fun K => by kernel_rfl) ?_
  refine awp_seq_k fun K hK => ?_
  refine awp_sx prog_ok hP hnt [] [] [] [0, 1, 6, 39] (by kernel_rfl) (G := fun K => K (St.mk [(0, V.d (du a)), (1, V.d (du (dig B))), (6, V.d (D.int IntKind.i64 (↑(dig B).length : Int))), (39, V.d (D.bool ((↑(dig B).length : Int) == (1 : Int))))] [] 14)) (fun K => by kernel_rfl) ?_
  refine awp_cond rfl (fun e => ?_) (fun e => awp_skip (hK _ ?_))
  · simp at e
    have hB1 : B < 4294967296 := dig_lt_of_len (k := 1) (by omega)
    have hdB : dig B = [B] := by rw [dig_pos h0, Nat.mod_eq_of_lt hB1, Nat.div_eq_of_lt hB1, dig_zero]
    rw [hdB]
    have hds := divsmall_fn a B (by omega) da (by omega) hB1
    have hm : val a % B < B := Nat.mod_lt _ (by omega)
    have hof := of_fn (val a % B) (by omega)
    refine awp_sx prog_ok hP hnt [] [.val (.tup [.d (du (dig (val a / B))), .d (.int .u32 (val a % B : Nat)), .d (.bool true)])] [some [.int .u32 B]] [7, 8] (by kernel_rfl) (G := fun K => ((0 : Int) ≤ (0 : Int) ∧ (0 : Int) < (↑[B].length : Int) ∧ 1 ≤ (u32s [B]).length) ∧ (List.drop 0 (u32s [B]))[0]? = some (D.int IntKind.u32 (↑B : Int)) ∧ Fn Try.prog 247 [V.d (du a), V.d (D.int IntKind.u32 (↑B : Int))] [] (V.tup [V.d (du (dig (val a / B))), V.d (D.int IntKind.u32 (↑(val a % B) : Int)), V.d (D.bool true)]) [] ∧ K (St.mk [(7, V.d (du (dig (val a / B)))), (8, V.d (D.int IntKind.u32 (↑(val a % B) : Int)))] [] 26)) (fun K => by kernel_rfl) ?_
    refine ⟨⟨by omega, by simp, by simp⟩, by rfl, hds, ?_⟩
    refine awp_sx prog_ok hP hnt [(51, .int .u64 (val a % B : Nat))] [.val (.d (du (dig (val a % B))))] [] [4, 5] (by kernel_rfl) (G := fun K => IntKind.u64.wrap (↑(val a % B) : Int) = (↑(val a % B) : Int) ∧ Fn Try.prog 155 [V.d (D.int IntKind.u64 (↑(val a % B) : Int))] [] (V.d (du (dig (val a % B)))) [] ∧ K (St.mk [(4, V.d (du (dig (val a / B)))), (5, V.d (du (dig (val a % B))))] [] 32)) (fun K => by kernel_rfl) ?_
    exact ⟨u64w (by omega) (by omega), hof, awp_ret ⟨.inl rfl, ret2 rfl rfl⟩⟩
  simp at e
  have hn2 : 2 ≤ (dig B).length := by have := mt dig_len0.1 h0; omega
  obtain ⟨td, ht1, ht2, ht3, ht4⟩ := dig_shl h0
  have hlz := lz32_fn td ht2
  obtain ⟨s, hs⟩ : ∃ s, s = 32 - blen td := ⟨_, rfl⟩
  rw [← hs] at ht4 hlz
  have hs32 : s ≤ 32 := by omega
  have hsv := shl_fn (dig B) s (by omega) hBd (by omega)
  have hsu := shlO_fn a s (by omega) da (by omega)
  have hU0 : (dig (val a * 2 ^ s)).length ≤ a.length + 1 := dig_len (by
    have h1 := val_lt da
    have h2 : 2 ^ s ≤ 4294967296 := by
      have := Nat.pow_le_pow_right (n := 2) (show 0 < 2 by omega) hs32
      omega
    rw [Nat.pow_succ]
    have h3 := Nat.mul_le_mul (Nat.le_of_lt h1) h2
    have h4 := Nat.mul_lt_mul_of_pos_right h1 (show 0 < 2 ^ s from Nat.pow_pos (by omega))
    have h5 := Nat.mul_le_mul_left (4294967296 ^ a.length) h2
    omega)
  have hVle : B * 2 ^ s ≤ val a * 2 ^ s := Nat.mul_le_mul_right _ hge
  rw [hBv] at hsv
  obtain ⟨V, hV⟩ : ∃ V, V = B * 2 ^ s := ⟨_, rfl⟩
  obtain ⟨A, hA⟩ : ∃ A, A = val a * 2 ^ s := ⟨_, rfl⟩
  rw [← hV] at hsv ht4 hVle
  rw [← hA] at hsu hU0 hVle
  have hLn : (dig V).length ≤ (dig A).length := dig_len (Nat.lt_of_le_of_lt hVle (by
    have := val_lt (dig_lt A); rwa [val_dig] at this))
  obtain ⟨v, hv⟩ : ∃ v, v = dig V := ⟨_, rfl⟩
  have hvd : Dg v := hv ▸ dig_lt V
  have hvv : val v = V := hv ▸ val_dig V
  obtain ⟨n, hn⟩ : ∃ n, n = (dig B).length := ⟨_, rfl⟩
  rw [← hv] at hsv ht4 hLn
  rw [← hn] at hn2 ht1 ht4 hlb ⊢
  refine awp_sx prog_ok hP hnt [(55, .int .i64 (n - 1 : Nat))] [.val (.d (.int .i64 s))] [some [.int .u32 td]] [0, 1, 6, 10] (by kernel_rfl) (G := fun K => IntKind.i64.wrap ((↑n : Int) - (1 : Int)) = (↑(n - 1) : Int) ∧ ((0 : Int) ≤ (↑(n - 1) : Int) ∧ (↑(n - 1) : Int) < (↑(dig B).length : Int) ∧ ((↑(n - 1) : Int).toNat + 1) * 1 ≤ (u32s (dig B)).length) ∧ (List.drop ((↑(n - 1) : Int).toNat * 1) (u32s (dig B)))[0]? = some (D.int IntKind.u32 (↑td : Int)) ∧ Fn Try.prog 248 [Abs.V.d (D.int IntKind.u32 (↑td : Int))] [] (Abs.V.d (D.int IntKind.i64 (↑s : Int))) [] ∧ K (St.mk [(0, Abs.V.d (du a)), (1, Abs.V.d (du (dig B))), (6, Abs.V.d (D.int IntKind.i64 (↑n : Int))), (10, Abs.V.d (D.int IntKind.i64 (↑s : Int)))] [] 21)) (fun K => by kernel_rfl) ?_
  refine ⟨by rw [w64] <;> omega, ⟨by omega, by omega, by simp; omega⟩, ?_, hlz, ?_⟩
  · rw [Nat.mul_one, Int.toNat_natCast, List.getElem?_drop, Nat.add_zero, u32s_get, ht1]; rfl
  refine awp_sx prog_ok hP hnt [] [.val (.d (du v))] [] [0, 6, 10, 11] (by kernel_rfl) (G := fun K => Fn Try.prog 154 [Abs.V.d (du (dig B)), Abs.V.d (D.int IntKind.i64 (↑s : Int))] [] (Abs.V.d (du v)) [] ∧ K (St.mk [(0, Abs.V.d (du a)), (6, Abs.V.d (D.int IntKind.i64 (↑n : Int))), (10, Abs.V.d (D.int IntKind.i64 (↑s : Int))), (11, Abs.V.d (du v))] [] 25)) (fun K => by kernel_rfl) ?_
  refine ⟨hsv, ?_⟩
  refine awp_sx prog_ok hP hnt [] [.own (dig A).length 1 (u32s (dig A))] [] [6, 10, 11, 12] (by kernel_rfl) (G := fun K => Fn Try.prog 154 [Abs.V.d (du a), Abs.V.d (D.int IntKind.i64 (↑s : Int))] [] (Abs.V.own 27 0 (dig A).length 1) [(27, Blk.mk (u32s (dig A)) true)] ∧ 1 = 1 ∧ ((u32s (dig A)).length = (dig A).length * 1 ∧ ((dig A).length + 1) * 4 ≤ 2 ^ 47) ∧ K (St.mk [(6, Abs.V.d (D.int IntKind.i64 (↑n : Int))), (10, Abs.V.d (D.int IntKind.i64 (↑s : Int))), (11, Abs.V.d (du v)), (12, Abs.V.own 29 0 ((dig A).length + 1) 1)] [(27, none), (29, some (Blk.mk (u32s (dig A) ++ setCells (zeros 1 (TI.mk (Kind.int IntKind.u32) 1 4 [D.int IntKind.u32 (0 : Int)]).zero) 0 [D.int IntKind.u32 (0 : Int)]) true))] 31)) (fun K => by kernel_rfl) ?_
  refine ⟨hsu _, ?_⟩
  obtain ⟨u0, hu0⟩ : ∃ u0, u0 = dig A ++ [0] := ⟨_, rfl⟩
  have hu0d : Dg u0 := hu0 ▸ dg_append (dig_lt A) (dg_one (by omega))
  have hu0v : val u0 = A := by rw [hu0, val_append, val_dig]; simp [val]
  have hu0l : u0.length = (dig A).length + 1 := by rw [hu0]; simp
  have hcells : u32s (dig A) ++ setCells (zeros 1 [.int .u32 0]) 0 [.int .u32 0] = u32s u0 := by rw [hu0]; simp [u32s, zeros, setCells]
  have hA0 : A < 4294967296 ^ (dig A).length := by have := val_lt (dig_lt A); rwa [val_dig] at this
  rw [hcells]
  obtain ⟨m, rfl⟩ : ∃ m, n = m + 2 := ⟨n - 2, by omega⟩
  obtain ⟨k0, hk0⟩ : ∃ k0, k0 = u0.length - (m + 2) := ⟨_, rfl⟩
  have hu0k : u0.length = k0 + (m + 2) := by omega
  obtain ⟨t, htv⟩ := get_ex (l := v) (i := m + 1) (by omega)
  obtain ⟨x, hxv⟩ := get_ex (l := v) (i := m) (by omega)
  have ht0 : 0 < t := by
    rcases Nat.eq_zero_or_pos t with h | h
    · exfalso
      subst h
      have h1 := val_take_succ htv
      rw [List.take_of_length_le (by omega), Nat.mul_zero, Nat.add_zero, hvv] at h1
      have h2 := val_take_lt hvd (m + 1)
      have h3 := dig_len (n := V) (k := m + 1) (by omega)
      rw [← hv] at h3
      omega
    · exact h
  have ht32 := dg_get hvd htv
  have hx32 := dg_get hvd hxv
  rw [← hu0l]
  refine ⟨rfl, ⟨by simp, by omega⟩, ?_⟩
  refine awp_sx prog_ok hP hnt [(70, .int .i64 k0)] [] [] [4, 6, 10, 11, 12] (by kernel_rfl) (G := fun K => IntKind.i64.wrap ((↑u0.length : Int) - (↑(m + 2) : Int)) = (↑k0 : Int) ∧ ((↑k0 : Int) = (↑k0 : Int) ∧ (0 : Int) ≤ (↑k0 : Int) ∧ (↑k0 : Int) * (↑4 : Int) ≤ (2 : Int) ^ 47) ∧ K (St.mk [(6, Abs.V.d (D.int IntKind.i64 (↑(m + 2) : Int))), (10, Abs.V.d (D.int IntKind.i64 (↑s : Int))), (11, Abs.V.d (du v)), (12, Abs.V.own 29 0 u0.length 1), (4, Abs.V.own 35 0 (↑k0 : Int).toNat 1)] [(27, none), (29, some (Blk.mk (u32s u0) true)), (35, some (Blk.mk (zeros (↑k0 : Int).toNat (TI.mk (Kind.int IntKind.u32) 1 4 [D.int IntKind.u32 (0 : Int)]).zero) true))] 37)) (fun K => by kernel_rfl) ?_
  refine ⟨by rw [w64] <;> omega, ⟨rfl, by omega, by omega⟩, ?_⟩
  have gv1 : (List.drop ((m + 1 : Nat) * 1) (u32s v))[0]? = some (D.int .u32 t) := by
    rw [Nat.mul_one, List.getElem?_drop, Nat.add_zero, u32s_get, htv]; rfl
  have gv0 : (List.drop (m * 1) (u32s v))[0]? = some (D.int .u32 x) := by
    rw [Nat.mul_one, List.getElem?_drop, Nat.add_zero, u32s_get, hxv]; rfl
  refine awp_sx prog_ok hP hnt [(74, .int .i64 (m + 1 : Nat)), (77, .int .u64 t), (80, .int .i64 m), (83, .int .u64 x)] [] [some [.int .u32 t], some [.int .u32 x]] [4, 6, 10, 11, 12, 13, 14] (by kernel_rfl) (G := fun K => IntKind.i64.wrap ((↑(m + 2) : Int) - (1 : Int)) = (↑(m + 1) : Int) ∧ ((0 : Int) ≤ (↑(m + 1) : Int) ∧ (↑(m + 1) : Int) < (↑v.length : Int) ∧ ((↑(m + 1) : Int).toNat + 1) * 1 ≤ (u32s v).length) ∧ (List.drop ((↑(m + 1) : Int).toNat * 1) (u32s v))[0]? = some (D.int IntKind.u32 (↑t : Int)) ∧ IntKind.u64.wrap (↑t : Int) = (↑t : Int) ∧ IntKind.i64.wrap ((↑(m + 2) : Int) - (2 : Int)) = (↑m : Int) ∧ ((0 : Int) ≤ (↑m : Int) ∧ (↑m : Int) < (↑v.length : Int) ∧ ((↑m : Int).toNat + 1) * 1 ≤ (u32s v).length) ∧ (List.drop ((↑m : Int).toNat * 1) (u32s v))[0]? = some (D.int IntKind.u32 (↑x : Int)) ∧ IntKind.u64.wrap (↑x : Int) = (↑x : Int) ∧ K (St.mk [(6, Abs.V.d (D.int IntKind.i64 (↑(m + 2) : Int))), (10, Abs.V.d (D.int IntKind.i64 (↑s : Int))), (11, Abs.V.d (du v)), (12, Abs.V.own 29 0 u0.length 1), (4, Abs.V.own 35 0 (↑k0 : Int).toNat 1), (13, Abs.V.d (D.int IntKind.u64 (↑t : Int))), (14, Abs.V.d (D.int IntKind.u64 (↑x : Int)))] [(27, none), (29, some (Blk.mk (u32s u0) true)), (35, some (Blk.mk (zeros (↑k0 : Int).toNat (TI.mk (Kind.int IntKind.u32) 1 4 [D.int IntKind.u32 (0 : Int)]).zero) true))] 51)) (fun K => by kernel_rfl) ?_
  refine ⟨by rw [w64] <;> omega, ⟨by omega, by omega, by simp; omega⟩, gv1, u64w (by omega) (by omega), by rw [w64] <;> omega, ⟨by omega, by omega, by simp; omega⟩, gv0, u64w (by omega) (by omega), ?_⟩
  refine awp_seq_k fun K hK => awp_label (hK _ ?_)
  refine awp_cut (ι := List Nat × List Nat) (fun ⟨u, q⟩ => ⟨[(4, .own 1 0 k0 1), (6, .d (.int .i64 (m + 2 : Nat))), (10, .d (.int .i64 s)), (12, .own 0 0 (k0 + (m + 2)) 1)], [(0, some ⟨u32s u, true⟩), (1, some ⟨u32s q, true⟩)], 2⟩)
    (fun ⟨u, q⟩ => u.length = k0 + (m + 2) ∧ Dg u ∧ q.length = k0 ∧ Dg q ∧ A = val q * V + val u ∧ val u < V) ?_ ?_
  · refine awp_sx prog_ok hP hnt [(88, .int .i64 ((k0 : Int) - 1))] [] [] [4, 6, 10, 11, 12, 13, 14, 15] (by kernel_rfl) (G := fun K => IntKind.i64.wrap (IntKind.i64.wrap ((↑u0.length : Int) - (↑(m + 2) : Int)) - (1 : Int)) = (↑k0 : Int) - (1 : Int) ∧ K (St.mk [(6, Abs.V.d (D.int IntKind.i64 (↑(m + 2) : Int))), (10, Abs.V.d (D.int IntKind.i64 (↑s : Int))), (11, Abs.V.d (du v)), (12, Abs.V.own 29 0 u0.length 1), (4, Abs.V.own 35 0 (↑k0 : Int).toNat 1), (13, Abs.V.d (D.int IntKind.u64 (↑t : Int))), (14, Abs.V.d (D.int IntKind.u64 (↑x : Int))), (15, Abs.V.d (D.int IntKind.i64 ((↑k0 : Int) - (1 : Int))))] [(27, none), (29, some (Blk.mk (u32s u0) true)), (35, some (Blk.mk (zeros (↑k0 : Int).toNat (TI.mk (Kind.int IntKind.u32) 1 4 [D.int IntKind.u32 (0 : Int)]).zero) true))] 57)) (fun K => by kernel_rfl) ?_
    have hw0 : IntKind.i64.wrap ((u0.length : Int) - (m + 2 : Nat)) = (k0 : Int) := by rw [w64] <;> omega
    refine ⟨by rw [hw0, w64] <;> omega, ?_⟩
    refine awp_block ?_
    refine awp_loop (ι := Nat × List Nat × List Nat) (fun ⟨k, u, q⟩ => ⟨[(4, .own 1 0 k0 1), (6, .d (.int .i64 (m + 2 : Nat))), (10, .d (.int .i64 s)), (11, .d (du v)), (12, .own 0 0 (k0 + (m + 2)) 1), (13, .d (.int .u64 t)), (14, .d (.int .u64 x)), (15, .d (.int .i64 ((k : Int) - 1)))], [(0, some ⟨u32s u, true⟩), (1, some ⟨u32s q, true⟩)], 2⟩)
      (fun ⟨k, u, q⟩ => k ≤ k0 ∧ u.length = k0 + (m + 2) ∧ Dg u ∧ q.length = k0 ∧ Dg q ∧ q.take k = List.replicate k 0 ∧ A = val q * V + val u ∧ val u < V * 4294967296 ^ k) (fun ⟨k, u, q⟩ => k) (k0, u0, List.replicate k0 0) [(0, 29), (1, 35)] ?_ ?_ ?_
    · refine ⟨Nat.le_refl _, hu0k, hu0d, by simp, dg_zeros _, by simp, by rw [val_zeros, hu0v]; omega, ?_⟩
      have h1 := dig_ge (n := V) (k := m + 1) (by rw [← hv]; omega)
      rw [show (dig A).length = (m + 1) + k0 by omega, Nat.pow_add] at hA0
      rw [hu0v]
      exact Nat.lt_of_lt_of_le hA0 (Nat.mul_le_mul_right _ h1)
    · rw [hu0k]
      (constructor <;> simp [hl, envOk, memOk, conv, St.get, St.blk, zeros_u32])
    rintro ⟨k, u, q⟩ ⟨hk, hul, hud, hql, hqd, hq0, hAv, hult⟩
    refine awp_seq_k fun K1 hK1 => ?_
    refine awp_sx prog_ok hP hnt [] [] [] [4, 6, 10, 11, 12, 13, 14, 15, 90] (by kernel_rfl) (G := fun K => K (St.mk [(4, Abs.V.own 1 0 k0 1), (6, Abs.V.d (D.int IntKind.i64 (↑(m + 2) : Int))), (10, Abs.V.d (D.int IntKind.i64 (↑s : Int))), (11, Abs.V.d (du v)), (12, Abs.V.own 0 0 (k0 + (m + 2)) 1), (13, Abs.V.d (D.int IntKind.u64 (↑t : Int))), (14, Abs.V.d (D.int IntKind.u64 (↑x : Int))), (15, Abs.V.d (D.int IntKind.i64 ((↑k : Int) - (1 : Int)))), (90, Abs.V.d (D.bool (decide ((↑k : Int) - (1 : Int) ≥ (0 : Int)))))] [(0, some (Blk.mk (u32s u) true)), (1, some (Blk.mk (u32s q) true))] 4)) (fun K => by kernel_rfl) ?_
    refine awp_cond rfl (fun e => awp_skip (hK1 _ ?_)) (fun e => awp_exit ⟨(u, q), [(0, 0), (1, 1)], ?_, ?_⟩)
    · simp at e
      obtain ⟨j, rfl⟩ : ∃ j, k = j + 1 := ⟨k - 1, by omega⟩
      have ej : ((j + 1 : Nat) : Int) - 1 = (j : Nat) := by omega
      rw [ej]
      refine awp_cut (ι := List Nat × List Nat) (fun z => longSt m k0 s v z.1 z.2 t x j []) (fun z => z.1.length = k0 + (m + 2) ∧ Dg z.1 ∧ z.2.length = k0 ∧ Dg z.2 ∧ z.2.take j = List.replicate j 0 ∧ A = val z.2 * V + val z.1 ∧ val z.1 < V * 4294967296 ^ j)
        (awp_weak [(0, 0), (1, 1)] (longSt m k0 s v u q t x j []) ?_ (digit_loop hP hnt hl (by omega) hul hud hvd hvv ht4 (by omega) hql hqd hq0 hAv hult htv hxv ht0)) ?_
      · unfold longSt
        (constructor <;> simp [hl, envOk, memOk, conv, St.get, St.blk])
      rintro ⟨u', q'⟩ ⟨h1, h2, h3, h4, h5, h6, h7⟩
      unfold longSt
      simp only at h1 h2 h3 h4 h5 h6 h7
      refine awp_x prog_ok hP hnt [(92, .int .i64 ((j : Int) - 1))] [] [] [4, 6, 10, 11, 12, 13, 14, 15] (by kernel_rfl) (G := fun K => IntKind.i64.wrap ((↑j : Int) - (1 : Int)) = (↑j : Int) - (1 : Int) ∧ K (St.mk [(4, Abs.V.own 1 0 k0 1), (6, Abs.V.d (D.int IntKind.i64 (↑(m + 2) : Int))), (10, Abs.V.d (D.int IntKind.i64 (↑s : Int))), (11, Abs.V.d (du v)), (12, Abs.V.own 0 0 (k0 + (m + 2)) 1), (13, Abs.V.d (D.int IntKind.u64 (↑t : Int))), (14, Abs.V.d (D.int IntKind.u64 (↑x : Int))), (15, Abs.V.d (D.int IntKind.i64 ((↑j : Int) - (1 : Int))))] [(0, some (Blk.mk (u32s u') true)), (1, some (Blk.mk (u32s q') true))] 5)) (fun K => by kernel_rfl) ?_
      refine ⟨by rw [w64] <;> omega, (j, u', q'), [(0, 0), (1, 1)], ⟨⟨by omega, h1, h2, h3, h4, h5, h6, h7⟩, by show j < j + 1; omega⟩, ?_⟩
      (constructor <;> simp [hl, envOk, memOk, conv, St.get, St.blk])
    · simp at e
      have hk0' : k = 0 := by omega
      subst hk0'
      exact ⟨hul, hud, hql, hqd, hAv, by simpa using hult⟩
    · (constructor <;> simp [hl, envOk, memOk, conv, St.get, St.blk])
  rintro ⟨u, q⟩ ⟨h1, h2, h3, h4, h5, h6⟩
  have hVp : 0 < V := by omega
  have hq : A / V = val q := by rw [h5, Nat.mul_comm, Nat.mul_add_div hVp, Nat.div_eq_of_lt h6]; rfl
  have hr : A % V = val u := by rw [h5, Nat.mul_comm, Nat.mul_add_mod, Nat.mod_eq_of_lt h6]
  have hqq : val a / B = val q := by rw [← hq, hA, hV, Nat.mul_div_mul_right _ _ (Nat.pow_pos (by omega))]
  have hrr : val a % B = val u / 2 ^ s := by rw [← hr, hA, hV, Nat.mul_mod_mul_right, Nat.mul_div_cancel _ (Nat.pow_pos (by omega))]
  have hVn : V < 4294967296 ^ (m + 2) := by have := val_lt hvd; rwa [hvv, ht4] at this
  have hut : val (u.take (m + 2)) = val u := take_small (by omega) (Nat.lt_trans h6 hVn)
  have hnq := nnorm_fn q (by omega) h4
  have hsr := shr_fn (u.take (m + 2)) s (by simp; omega) (dg_take h2 _) (by omega)
  rw [← hqq] at hnq
  rw [hut, ← hrr] at hsr
  refine awp_sx prog_ok hP hnt [] [.val (.d (du (dig (val a / B)))), .val (.d (du (dig (val a % B))))] [] [4, 5] (by kernel_rfl) (G := fun K => Fn Try.prog 230 [Abs.V.d (D.lst k0 (List.take (k0 * 1) (List.drop 0 (u32s q))))] [] (Abs.V.d (du (dig (val a / B)))) [] ∧ ((0 : Int) ≤ (↑(m + 2) : Int) ∧ (↑(m + 2) : Int) ≤ (↑(k0 + (m + 2)) : Int)) ∧ Fn Try.prog 250 [Abs.V.d (D.lst (↑(m + 2) : Int).toNat (List.take ((↑(m + 2) : Int).toNat * 1) (List.drop 0 (u32s u)))), Abs.V.d (D.int IntKind.i64 (↑s : Int))] [] (Abs.V.d (du (dig (val a % B)))) [] ∧ K (St.mk [(4, Abs.V.d (du (dig (val a / B)))), (5, Abs.V.d (du (dig (val a % B))))] [(0, some (Blk.mk (u32s u) false)), (1, some (Blk.mk (u32s q) false))] 11)) (fun K => by kernel_rfl) ?_
  rw [Nat.mul_one, Nat.mul_one, List.drop_zero, List.drop_zero, Int.toNat_natCast, u32s_take, u32s_take]
  have e1 : D.lst k0 (u32s (q.take k0)) = du q := by rw [List.take_of_length_le (by omega), ← h3]; rfl
  have e2 : D.lst (m + 2) (u32s (u.take (m + 2))) = du (u.take (m + 2)) := by
    have : (u.take (m + 2)).length = m + 2 := by rw [List.length_take]; omega
    rw [du, this]
  rw [e1, e2]
  exact ⟨hnq, ⟨by omega, by omega⟩, hsr, awp_ret ⟨.inl rfl, ret2 rfl rfl⟩⟩
end Go.Abs
