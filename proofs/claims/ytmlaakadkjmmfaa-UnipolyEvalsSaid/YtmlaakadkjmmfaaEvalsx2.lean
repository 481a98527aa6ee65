import Derived.WalkKit
import Derived.Orders
import Derived.Below
import Derived.Laws.AppendOwn
import Derived.Calls
import Derived.OpenShut
import Derived.ChangeArms
import Derived.ChangeShapes
import Derived.WideShapes
import Derived.KernelRfl
import Derived.JoinedOf
import Derived.Scope
import Derived.ProofKit
import Derived.ShutString
import Derived.ChangeOld
import Derived.SizedLaws
import Derived.Test.YtmlaakadkjmmfaaProg
import Derived.Test.YtmlaakadkjmmfaaRows
import Derived.Test.YtmlaakadkjmmfaaEvalsx0
import Derived.Test.YtmlaakadkjmmfaaEvalsx1
/- Texts that the proof of UnipolyEvals leans on: what is told of the functions it reaches. -/
set_option linter.unusedVariables false
set_option linter.unusedSimpArgs false
namespace Go.Abs
open Go Go.Proofs

theorem info_of {P : Program} {t : Nat} {ti : TI} {z : Value} {s b : Nat} (h : (P.info? t).map (fun i => (i.size, i.bytes, i.zero)) = some (s, b, some z)) (hs : s = ti.size) (hb : b = ti.bytes)
    (hz : z.cells = (ti.zero.map zval).toArray) (hd : (ti.zero.length == ti.size && ti.zero.all zeroD) = true) (hp : (decide (0 < ti.size) && decide (0 < ti.bytes)) = true) :
    ∃ i z, P.info? t = some i ∧ i.size = ti.size ∧ i.bytes = ti.bytes ∧ i.zero = some z ∧ z.cells = (ti.zero.map zval).toArray ∧ ti.zero.length = ti.size ∧ ti.zero.all zeroD = true ∧ 0 < ti.size ∧ 0 < ti.bytes := by
  cases e : P.info? t with
  | none => rw [e] at h; cases h
  | some i =>
    rw [e] at h
    simp at h hd hp
    exact ⟨i, z, rfl, by rw [h.1, hs], by rw [h.2.1, hb], h.2.2, hz, hd.1, by simpa using hd.2, hp.1, hp.2⟩

def structOf (P : Program) (t : Nat) : Option (List (Nat × Option Nat)) := match P.underlying t with
  | some (.struct fs) => some (fs.toList.map fun f => (f.offset, (P.info? f.type).map (·.size)))
  | _ => none

theorem struct_of {P : Program} {t : Nat} {offs : List (Nat × Nat)} {l : List (Nat × Option Nat)} (h : structOf P t = some l) (hl : (l == offs.map fun p => (p.1, some p.2)) = true) (hp : offs.all (fun p => decide (0 < p.2)) = true) :
    ∃ fs, P.underlying t = some (.struct fs) ∧ fs.size = offs.length ∧ ∀ (j o sz : Nat), offs[j]? = some (o, sz) → ∃ (fd : Field) (i : TypeInfo), fs[j]? = some fd ∧ fd.offset = o ∧ P.info? fd.type = some i ∧ i.size = sz ∧ 0 < sz := by
  have hl' : l = offs.map fun p => (p.1, some p.2) := by simpa using hl
  subst hl'
  unfold structOf at h
  split at h
  · rename_i fs hfs
    simp only [Option.some.injEq] at h
    refine ⟨fs, hfs, by simpa using congrArg List.length h, fun j o sz hj => ?_⟩
    have hg := congrArg (fun l => l[j]?) h
    simp only [List.getElem?_map, hj, Option.map_some] at hg
    cases e : fs.toList[j]? with
    | none => rw [e] at hg; cases hg
    | some fd =>
      rw [e] at hg
      simp at hg
      obtain ⟨h1, i, h2, h3⟩ := hg
      refine ⟨fd, i, by simpa using e, h1, h2, h3, ?_⟩
      rw [List.all_eq_true] at hp
      simpa using hp (o, sz) (List.mem_of_getElem? hj)
  · cases h

def tab : Tab
  | 2 => some ⟨.int .i64, 1, 8, [.int .i64 0]⟩
  | 3 => some ⟨.int .i64, 1, 8, [.int .i64 0]⟩
  | 4 => some ⟨.bool, 1, 1, [.bool false]⟩
  | 5 => some ⟨.int .u8, 1, 1, [.int .u8 0]⟩
  | 22 => some ⟨.slice 46, 1, 24, [.lst 0 []]⟩
  | 23 => some ⟨.slice 46, 1, 24, [.lst 0 []]⟩
  | 26 => some ⟨.slice 31, 1, 24, [.lst 0 []]⟩
  | 27 => some ⟨.slice 31, 1, 24, [.lst 0 []]⟩
  | 29 => some ⟨.slice 3, 1, 24, [.lst 0 []]⟩
  | 31 => some ⟨.struct [(0, 1), (1, 1)], 2, 32, [.int .i64 0, .lst 0 []]⟩
  | 43 => some ⟨.slice 62, 1, 24, [.lst 0 []]⟩
  | 44 => some ⟨.slice 62, 1, 24, [.lst 0 []]⟩
  | 46 => some ⟨.struct [(0, 1), (1, 1)], 2, 32, [.bool false, .lst 0 []]⟩
  | 61 => some ⟨.slice 23, 1, 24, [.lst 0 []]⟩
  | 62 => some ⟨.int .u32, 1, 4, [.int .u32 0]⟩
  | 63 => some ⟨.slice 173, 1, 24, [.lst 0 []]⟩
  | 65 => some ⟨.slice 134, 1, 24, [.lst 0 []]⟩
  | 72 => some ⟨.slice 144, 1, 24, [.lst 0 []]⟩
  | 78 => some ⟨.struct [(0, 2), (2, 1)], 3, 56, [.bool false, .lst 0 [], .lst 0 []]⟩
  | 81 => some ⟨.struct [(0, 2), (2, 2)], 4, 64, [.int .i64 0, .lst 0 [], .int .i64 0, .lst 0 []]⟩
  | 89 => some ⟨.int .u16, 1, 2, [.int .u16 0]⟩
  | 103 => some ⟨.int .i64, 1, 8, [.int .i64 0]⟩
  | 114 => some ⟨.slice 27, 1, 24, [.lst 0 []]⟩
  | 121 => some ⟨.int .i8, 1, 1, [.int .i8 0]⟩
  | 122 => some ⟨.array 2 121, 2, 2, [.int .i8 0, .int .i8 0]⟩
  | 134 => some ⟨.struct [(0, 1), (1, 1)], 2, 32, [.lst 0 [], .int .i64 0]⟩
  | 138 => some ⟨.slice 143, 1, 24, [.lst 0 []]⟩
  | 143 => some ⟨.struct [(0, 1), (1, 1)], 2, 32, [.lst 0 [], .int .i64 0]⟩
  | 144 => some ⟨.int .i16, 1, 2, [.int .i16 0]⟩
  | 150 => some ⟨.array 4 5, 4, 4, [.int .u8 0, .int .u8 0, .int .u8 0, .int .u8 0]⟩
  | 158 => some ⟨.int .u64, 1, 8, [.int .u64 0]⟩
  | 160 => some ⟨.array 3 72, 3, 72, [.lst 0 [], .lst 0 [], .lst 0 []]⟩
  | 167 => some ⟨.int .u64, 1, 8, [.int .u64 0]⟩
  | 169 => some ⟨.slice 2, 1, 24, [.lst 0 []]⟩
  | 173 => some ⟨.array 3 121, 3, 3, [.int .i8 0, .int .i8 0, .int .i8 0]⟩
  | 174 => some ⟨.slice 29, 1, 24, [.lst 0 []]⟩
  | 180 => some ⟨.slice 43, 1, 24, [.lst 0 []]⟩
  | 181 => some ⟨.slice 81, 1, 24, [.lst 0 []]⟩
  | _ => none

theorem info2 : (Try.prog.info? 2).map (fun i => (i.size, i.bytes, i.zero)) = some (1, 8, some (.int .i64 0)) := by kernel_rfl
theorem desc2 : Try.prog.underlying 2 = some (.int .i64) := by kernel_rfl
theorem info3 : (Try.prog.info? 3).map (fun i => (i.size, i.bytes, i.zero)) = some (1, 8, some (.int .i64 0)) := by kernel_rfl
theorem desc3 : Try.prog.underlying 3 = some (.int .i64) := by kernel_rfl
theorem info4 : (Try.prog.info? 4).map (fun i => (i.size, i.bytes, i.zero)) = some (1, 1, some (.bool false)) := by kernel_rfl
theorem desc4 : Try.prog.underlying 4 = some (.bool) := by kernel_rfl
theorem info5 : (Try.prog.info? 5).map (fun i => (i.size, i.bytes, i.zero)) = some (1, 1, some (.int .u8 0)) := by kernel_rfl
theorem desc5 : Try.prog.underlying 5 = some (.int .u8) := by kernel_rfl
theorem info22 : (Try.prog.info? 22).map (fun i => (i.size, i.bytes, i.zero)) = some (1, 24, some (.slice none 0 0)) := by kernel_rfl
theorem desc22 : Try.prog.underlying 22 = some (.slice 46) := by kernel_rfl
theorem info23 : (Try.prog.info? 23).map (fun i => (i.size, i.bytes, i.zero)) = some (1, 24, some (.slice none 0 0)) := by kernel_rfl
theorem desc23 : Try.prog.underlying 23 = some (.slice 46) := by kernel_rfl
theorem info26 : (Try.prog.info? 26).map (fun i => (i.size, i.bytes, i.zero)) = some (1, 24, some (.slice none 0 0)) := by kernel_rfl
theorem desc26 : Try.prog.underlying 26 = some (.slice 31) := by kernel_rfl
theorem info27 : (Try.prog.info? 27).map (fun i => (i.size, i.bytes, i.zero)) = some (1, 24, some (.slice none 0 0)) := by kernel_rfl
theorem desc27 : Try.prog.underlying 27 = some (.slice 31) := by kernel_rfl
theorem info29 : (Try.prog.info? 29).map (fun i => (i.size, i.bytes, i.zero)) = some (1, 24, some (.slice none 0 0)) := by kernel_rfl
theorem desc29 : Try.prog.underlying 29 = some (.slice 3) := by kernel_rfl
theorem info31 : (Try.prog.info? 31).map (fun i => (i.size, i.bytes, i.zero)) = some (2, 32, some (.agg #[.int .i64 0, .slice none 0 0])) := by kernel_rfl
theorem desc31 : structOf Try.prog 31 = some [(0, some 1), (1, some 1)] := by kernel_rfl
theorem info43 : (Try.prog.info? 43).map (fun i => (i.size, i.bytes, i.zero)) = some (1, 24, some (.slice none 0 0)) := by kernel_rfl
theorem desc43 : Try.prog.underlying 43 = some (.slice 62) := by kernel_rfl
theorem info44 : (Try.prog.info? 44).map (fun i => (i.size, i.bytes, i.zero)) = some (1, 24, some (.slice none 0 0)) := by kernel_rfl
theorem desc44 : Try.prog.underlying 44 = some (.slice 62) := by kernel_rfl
theorem info46 : (Try.prog.info? 46).map (fun i => (i.size, i.bytes, i.zero)) = some (2, 32, some (.agg #[.bool false, .slice none 0 0])) := by kernel_rfl
theorem desc46 : structOf Try.prog 46 = some [(0, some 1), (1, some 1)] := by kernel_rfl
theorem info61 : (Try.prog.info? 61).map (fun i => (i.size, i.bytes, i.zero)) = some (1, 24, some (.slice none 0 0)) := by kernel_rfl
theorem desc61 : Try.prog.underlying 61 = some (.slice 23) := by kernel_rfl
theorem info62 : (Try.prog.info? 62).map (fun i => (i.size, i.bytes, i.zero)) = some (1, 4, some (.int .u32 0)) := by kernel_rfl
theorem desc62 : Try.prog.underlying 62 = some (.int .u32) := by kernel_rfl
theorem info63 : (Try.prog.info? 63).map (fun i => (i.size, i.bytes, i.zero)) = some (1, 24, some (.slice none 0 0)) := by kernel_rfl
theorem desc63 : Try.prog.underlying 63 = some (.slice 173) := by kernel_rfl
theorem info65 : (Try.prog.info? 65).map (fun i => (i.size, i.bytes, i.zero)) = some (1, 24, some (.slice none 0 0)) := by kernel_rfl
theorem desc65 : Try.prog.underlying 65 = some (.slice 134) := by kernel_rfl
theorem info72 : (Try.prog.info? 72).map (fun i => (i.size, i.bytes, i.zero)) = some (1, 24, some (.slice none 0 0)) := by kernel_rfl
theorem desc72 : Try.prog.underlying 72 = some (.slice 144) := by kernel_rfl
theorem info78 : (Try.prog.info? 78).map (fun i => (i.size, i.bytes, i.zero)) = some (3, 56, some (.agg #[.bool false, .slice none 0 0, .slice none 0 0])) := by kernel_rfl
theorem desc78 : structOf Try.prog 78 = some [(0, some 2), (2, some 1)] := by kernel_rfl
theorem info81 : (Try.prog.info? 81).map (fun i => (i.size, i.bytes, i.zero)) = some (4, 64, some (.agg #[.int .i64 0, .slice none 0 0, .int .i64 0, .slice none 0 0])) := by kernel_rfl
theorem desc81 : structOf Try.prog 81 = some [(0, some 2), (2, some 2)] := by kernel_rfl
theorem info89 : (Try.prog.info? 89).map (fun i => (i.size, i.bytes, i.zero)) = some (1, 2, some (.int .u16 0)) := by kernel_rfl
theorem desc89 : Try.prog.underlying 89 = some (.int .u16) := by kernel_rfl
theorem info103 : (Try.prog.info? 103).map (fun i => (i.size, i.bytes, i.zero)) = some (1, 8, some (.int .i64 0)) := by kernel_rfl
theorem desc103 : Try.prog.underlying 103 = some (.int .i64) := by kernel_rfl
theorem info114 : (Try.prog.info? 114).map (fun i => (i.size, i.bytes, i.zero)) = some (1, 24, some (.slice none 0 0)) := by kernel_rfl
theorem desc114 : Try.prog.underlying 114 = some (.slice 27) := by kernel_rfl
theorem info121 : (Try.prog.info? 121).map (fun i => (i.size, i.bytes, i.zero)) = some (1, 1, some (.int .i8 0)) := by kernel_rfl
theorem desc121 : Try.prog.underlying 121 = some (.int .i8) := by kernel_rfl
theorem info122 : (Try.prog.info? 122).map (fun i => (i.size, i.bytes, i.zero)) = some (2, 2, some (.agg #[.int .i8 0, .int .i8 0])) := by kernel_rfl
theorem desc122 : Try.prog.underlying 122 = some (.array 2 121) := by kernel_rfl
theorem info134 : (Try.prog.info? 134).map (fun i => (i.size, i.bytes, i.zero)) = some (2, 32, some (.agg #[.slice none 0 0, .int .i64 0])) := by kernel_rfl
theorem desc134 : structOf Try.prog 134 = some [(0, some 1), (1, some 1)] := by kernel_rfl
theorem info138 : (Try.prog.info? 138).map (fun i => (i.size, i.bytes, i.zero)) = some (1, 24, some (.slice none 0 0)) := by kernel_rfl
theorem desc138 : Try.prog.underlying 138 = some (.slice 143) := by kernel_rfl
theorem info143 : (Try.prog.info? 143).map (fun i => (i.size, i.bytes, i.zero)) = some (2, 32, some (.agg #[.slice none 0 0, .int .i64 0])) := by kernel_rfl
theorem desc143 : structOf Try.prog 143 = some [(0, some 1), (1, some 1)] := by kernel_rfl
theorem info144 : (Try.prog.info? 144).map (fun i => (i.size, i.bytes, i.zero)) = some (1, 2, some (.int .i16 0)) := by kernel_rfl
theorem desc144 : Try.prog.underlying 144 = some (.int .i16) := by kernel_rfl
theorem info150 : (Try.prog.info? 150).map (fun i => (i.size, i.bytes, i.zero)) = some (4, 4, some (.agg #[.int .u8 0, .int .u8 0, .int .u8 0, .int .u8 0])) := by kernel_rfl
theorem desc150 : Try.prog.underlying 150 = some (.array 4 5) := by kernel_rfl
theorem info158 : (Try.prog.info? 158).map (fun i => (i.size, i.bytes, i.zero)) = some (1, 8, some (.int .u64 0)) := by kernel_rfl
theorem desc158 : Try.prog.underlying 158 = some (.int .u64) := by kernel_rfl
theorem info160 : (Try.prog.info? 160).map (fun i => (i.size, i.bytes, i.zero)) = some (3, 72, some (.agg #[.slice none 0 0, .slice none 0 0, .slice none 0 0])) := by kernel_rfl
theorem desc160 : Try.prog.underlying 160 = some (.array 3 72) := by kernel_rfl
theorem info167 : (Try.prog.info? 167).map (fun i => (i.size, i.bytes, i.zero)) = some (1, 8, some (.int .u64 0)) := by kernel_rfl
theorem desc167 : Try.prog.underlying 167 = some (.int .u64) := by kernel_rfl
theorem info169 : (Try.prog.info? 169).map (fun i => (i.size, i.bytes, i.zero)) = some (1, 24, some (.slice none 0 0)) := by kernel_rfl
theorem desc169 : Try.prog.underlying 169 = some (.slice 2) := by kernel_rfl
theorem info173 : (Try.prog.info? 173).map (fun i => (i.size, i.bytes, i.zero)) = some (3, 3, some (.agg #[.int .i8 0, .int .i8 0, .int .i8 0])) := by kernel_rfl
theorem desc173 : Try.prog.underlying 173 = some (.array 3 121) := by kernel_rfl
theorem info174 : (Try.prog.info? 174).map (fun i => (i.size, i.bytes, i.zero)) = some (1, 24, some (.slice none 0 0)) := by kernel_rfl
theorem desc174 : Try.prog.underlying 174 = some (.slice 29) := by kernel_rfl
theorem info180 : (Try.prog.info? 180).map (fun i => (i.size, i.bytes, i.zero)) = some (1, 24, some (.slice none 0 0)) := by kernel_rfl
theorem desc180 : Try.prog.underlying 180 = some (.slice 43) := by kernel_rfl
theorem info181 : (Try.prog.info? 181).map (fun i => (i.size, i.bytes, i.zero)) = some (1, 24, some (.slice none 0 0)) := by kernel_rfl
theorem desc181 : Try.prog.underlying 181 = some (.slice 81) := by kernel_rfl

theorem tab_ok : TabOk Try.prog tab where
  info t ti h := by
    unfold tab at h; split at h
    · cases h; exact info_of info2 rfl rfl rfl (by decide) (by decide)
    · cases h; exact info_of info3 rfl rfl rfl (by decide) (by decide)
    · cases h; exact info_of info4 rfl rfl rfl (by decide) (by decide)
    · cases h; exact info_of info5 rfl rfl rfl (by decide) (by decide)
    · cases h; exact info_of info22 rfl rfl rfl (by decide) (by decide)
    · cases h; exact info_of info23 rfl rfl rfl (by decide) (by decide)
    · cases h; exact info_of info26 rfl rfl rfl (by decide) (by decide)
    · cases h; exact info_of info27 rfl rfl rfl (by decide) (by decide)
    · cases h; exact info_of info29 rfl rfl rfl (by decide) (by decide)
    · cases h; exact info_of info31 rfl rfl rfl (by decide) (by decide)
    · cases h; exact info_of info43 rfl rfl rfl (by decide) (by decide)
    · cases h; exact info_of info44 rfl rfl rfl (by decide) (by decide)
    · cases h; exact info_of info46 rfl rfl rfl (by decide) (by decide)
    · cases h; exact info_of info61 rfl rfl rfl (by decide) (by decide)
    · cases h; exact info_of info62 rfl rfl rfl (by decide) (by decide)
    · cases h; exact info_of info63 rfl rfl rfl (by decide) (by decide)
    · cases h; exact info_of info65 rfl rfl rfl (by decide) (by decide)
    · cases h; exact info_of info72 rfl rfl rfl (by decide) (by decide)
    · cases h; exact info_of info78 rfl rfl rfl (by decide) (by decide)
    · cases h; exact info_of info81 rfl rfl rfl (by decide) (by decide)
    · cases h; exact info_of info89 rfl rfl rfl (by decide) (by decide)
    · cases h; exact info_of info103 rfl rfl rfl (by decide) (by decide)
    · cases h; exact info_of info114 rfl rfl rfl (by decide) (by decide)
    · cases h; exact info_of info121 rfl rfl rfl (by decide) (by decide)
    · cases h; exact info_of info122 rfl rfl rfl (by decide) (by decide)
    · cases h; exact info_of info134 rfl rfl rfl (by decide) (by decide)
    · cases h; exact info_of info138 rfl rfl rfl (by decide) (by decide)
    · cases h; exact info_of info143 rfl rfl rfl (by decide) (by decide)
    · cases h; exact info_of info144 rfl rfl rfl (by decide) (by decide)
    · cases h; exact info_of info150 rfl rfl rfl (by decide) (by decide)
    · cases h; exact info_of info158 rfl rfl rfl (by decide) (by decide)
    · cases h; exact info_of info160 rfl rfl rfl (by decide) (by decide)
    · cases h; exact info_of info167 rfl rfl rfl (by decide) (by decide)
    · cases h; exact info_of info169 rfl rfl rfl (by decide) (by decide)
    · cases h; exact info_of info173 rfl rfl rfl (by decide) (by decide)
    · cases h; exact info_of info174 rfl rfl rfl (by decide) (by decide)
    · cases h; exact info_of info180 rfl rfl rfl (by decide) (by decide)
    · cases h; exact info_of info181 rfl rfl rfl (by decide) (by decide)
    · cases h
  desc t ti h := by
    unfold tab at h; split at h
    · cases h; exact desc2
    · cases h; exact desc3
    · cases h; exact desc4
    · cases h; exact desc5
    · cases h; exact desc22
    · cases h; exact desc23
    · cases h; exact desc26
    · cases h; exact desc27
    · cases h; exact desc29
    · cases h; exact struct_of desc31 (by decide) (by decide)
    · cases h; exact desc43
    · cases h; exact desc44
    · cases h; exact struct_of desc46 (by decide) (by decide)
    · cases h; exact desc61
    · cases h; exact desc62
    · cases h; exact desc63
    · cases h; exact desc65
    · cases h; exact desc72
    · cases h; exact struct_of desc78 (by decide) (by decide)
    · cases h; exact struct_of desc81 (by decide) (by decide)
    · cases h; exact desc89
    · cases h; exact desc103
    · cases h; exact desc114
    · cases h; exact desc121
    · cases h; exact desc122
    · cases h; exact struct_of desc134 (by decide) (by decide)
    · cases h; exact desc138
    · cases h; exact struct_of desc143 (by decide) (by decide)
    · cases h; exact desc144
    · cases h; exact desc150
    · cases h; exact desc158
    · cases h; exact desc160
    · cases h; exact desc167
    · cases h; exact desc169
    · cases h; exact desc173
    · cases h; exact desc174
    · cases h; exact desc180
    · cases h; exact desc181
    · cases h

theorem prog_ok : Ok Try.prog tab := ⟨tab_ok, by kernel_rfl⟩

@[simp] theorem tab_2 : tab 2 = some ⟨.int .i64, 1, 8, [.int .i64 0]⟩ := rfl
@[simp] theorem agg_2 : Tab.agg tab 2 = false := rfl
@[simp] theorem flat_2 : Tab.flat tab 2 = true := rfl
@[simp] theorem size_2 : Tab.size tab 2 = 1 := rfl
@[simp] theorem tab_3 : tab 3 = some ⟨.int .i64, 1, 8, [.int .i64 0]⟩ := rfl
@[simp] theorem agg_3 : Tab.agg tab 3 = false := rfl
@[simp] theorem flat_3 : Tab.flat tab 3 = true := rfl
@[simp] theorem size_3 : Tab.size tab 3 = 1 := rfl
@[simp] theorem tab_4 : tab 4 = some ⟨.bool, 1, 1, [.bool false]⟩ := rfl
@[simp] theorem agg_4 : Tab.agg tab 4 = false := rfl
@[simp] theorem flat_4 : Tab.flat tab 4 = true := rfl
@[simp] theorem size_4 : Tab.size tab 4 = 1 := rfl
@[simp] theorem tab_5 : tab 5 = some ⟨.int .u8, 1, 1, [.int .u8 0]⟩ := rfl
@[simp] theorem agg_5 : Tab.agg tab 5 = false := rfl
@[simp] theorem flat_5 : Tab.flat tab 5 = true := rfl
@[simp] theorem size_5 : Tab.size tab 5 = 1 := rfl
@[simp] theorem tab_22 : tab 22 = some ⟨.slice 46, 1, 24, [.lst 0 []]⟩ := rfl
@[simp] theorem agg_22 : Tab.agg tab 22 = false := rfl
@[simp] theorem flat_22 : Tab.flat tab 22 = true := rfl
@[simp] theorem size_22 : Tab.size tab 22 = 1 := rfl
@[simp] theorem tab_23 : tab 23 = some ⟨.slice 46, 1, 24, [.lst 0 []]⟩ := rfl
@[simp] theorem agg_23 : Tab.agg tab 23 = false := rfl
@[simp] theorem flat_23 : Tab.flat tab 23 = true := rfl
@[simp] theorem size_23 : Tab.size tab 23 = 1 := rfl
@[simp] theorem tab_26 : tab 26 = some ⟨.slice 31, 1, 24, [.lst 0 []]⟩ := rfl
@[simp] theorem agg_26 : Tab.agg tab 26 = false := rfl
@[simp] theorem flat_26 : Tab.flat tab 26 = true := rfl
@[simp] theorem size_26 : Tab.size tab 26 = 1 := rfl
@[simp] theorem tab_27 : tab 27 = some ⟨.slice 31, 1, 24, [.lst 0 []]⟩ := rfl
@[simp] theorem agg_27 : Tab.agg tab 27 = false := rfl
@[simp] theorem flat_27 : Tab.flat tab 27 = true := rfl
@[simp] theorem size_27 : Tab.size tab 27 = 1 := rfl
@[simp] theorem tab_29 : tab 29 = some ⟨.slice 3, 1, 24, [.lst 0 []]⟩ := rfl
@[simp] theorem agg_29 : Tab.agg tab 29 = false := rfl
@[simp] theorem flat_29 : Tab.flat tab 29 = true := rfl
@[simp] theorem size_29 : Tab.size tab 29 = 1 := rfl
@[simp] theorem tab_31 : tab 31 = some ⟨.struct [(0, 1), (1, 1)], 2, 32, [.int .i64 0, .lst 0 []]⟩ := rfl
@[simp] theorem agg_31 : Tab.agg tab 31 = true := rfl
@[simp] theorem flat_31 : Tab.flat tab 31 = false := rfl
@[simp] theorem size_31 : Tab.size tab 31 = 2 := rfl
@[simp] theorem tab_43 : tab 43 = some ⟨.slice 62, 1, 24, [.lst 0 []]⟩ := rfl
@[simp] theorem agg_43 : Tab.agg tab 43 = false := rfl
@[simp] theorem flat_43 : Tab.flat tab 43 = true := rfl
@[simp] theorem size_43 : Tab.size tab 43 = 1 := rfl
@[simp] theorem tab_44 : tab 44 = some ⟨.slice 62, 1, 24, [.lst 0 []]⟩ := rfl
@[simp] theorem agg_44 : Tab.agg tab 44 = false := rfl
@[simp] theorem flat_44 : Tab.flat tab 44 = true := rfl
@[simp] theorem size_44 : Tab.size tab 44 = 1 := rfl
@[simp] theorem tab_46 : tab 46 = some ⟨.struct [(0, 1), (1, 1)], 2, 32, [.bool false, .lst 0 []]⟩ := rfl
@[simp] theorem agg_46 : Tab.agg tab 46 = true := rfl
@[simp] theorem flat_46 : Tab.flat tab 46 = false := rfl
@[simp] theorem size_46 : Tab.size tab 46 = 2 := rfl
@[simp] theorem tab_61 : tab 61 = some ⟨.slice 23, 1, 24, [.lst 0 []]⟩ := rfl
@[simp] theorem agg_61 : Tab.agg tab 61 = false := rfl
@[simp] theorem flat_61 : Tab.flat tab 61 = true := rfl
@[simp] theorem size_61 : Tab.size tab 61 = 1 := rfl
@[simp] theorem tab_62 : tab 62 = some ⟨.int .u32, 1, 4, [.int .u32 0]⟩ := rfl
@[simp] theorem agg_62 : Tab.agg tab 62 = false := rfl
@[simp] theorem flat_62 : Tab.flat tab 62 = true := rfl
@[simp] theorem size_62 : Tab.size tab 62 = 1 := rfl
@[simp] theorem tab_63 : tab 63 = some ⟨.slice 173, 1, 24, [.lst 0 []]⟩ := rfl
@[simp] theorem agg_63 : Tab.agg tab 63 = false := rfl
@[simp] theorem flat_63 : Tab.flat tab 63 = true := rfl
@[simp] theorem size_63 : Tab.size tab 63 = 1 := rfl
@[simp] theorem tab_65 : tab 65 = some ⟨.slice 134, 1, 24, [.lst 0 []]⟩ := rfl
@[simp] theorem agg_65 : Tab.agg tab 65 = false := rfl
@[simp] theorem flat_65 : Tab.flat tab 65 = true := rfl
@[simp] theorem size_65 : Tab.size tab 65 = 1 := rfl
@[simp] theorem tab_72 : tab 72 = some ⟨.slice 144, 1, 24, [.lst 0 []]⟩ := rfl
@[simp] theorem agg_72 : Tab.agg tab 72 = false := rfl
@[simp] theorem flat_72 : Tab.flat tab 72 = true := rfl
@[simp] theorem size_72 : Tab.size tab 72 = 1 := rfl
@[simp] theorem tab_78 : tab 78 = some ⟨.struct [(0, 2), (2, 1)], 3, 56, [.bool false, .lst 0 [], .lst 0 []]⟩ := rfl
@[simp] theorem agg_78 : Tab.agg tab 78 = true := rfl
@[simp] theorem flat_78 : Tab.flat tab 78 = false := rfl
@[simp] theorem size_78 : Tab.size tab 78 = 3 := rfl
@[simp] theorem tab_81 : tab 81 = some ⟨.struct [(0, 2), (2, 2)], 4, 64, [.int .i64 0, .lst 0 [], .int .i64 0, .lst 0 []]⟩ := rfl
@[simp] theorem agg_81 : Tab.agg tab 81 = true := rfl
@[simp] theorem flat_81 : Tab.flat tab 81 = false := rfl
@[simp] theorem size_81 : Tab.size tab 81 = 4 := rfl
@[simp] theorem tab_89 : tab 89 = some ⟨.int .u16, 1, 2, [.int .u16 0]⟩ := rfl
@[simp] theorem agg_89 : Tab.agg tab 89 = false := rfl
@[simp] theorem flat_89 : Tab.flat tab 89 = true := rfl
@[simp] theorem size_89 : Tab.size tab 89 = 1 := rfl
@[simp] theorem tab_103 : tab 103 = some ⟨.int .i64, 1, 8, [.int .i64 0]⟩ := rfl
@[simp] theorem agg_103 : Tab.agg tab 103 = false := rfl
@[simp] theorem flat_103 : Tab.flat tab 103 = true := rfl
@[simp] theorem size_103 : Tab.size tab 103 = 1 := rfl
@[simp] theorem tab_114 : tab 114 = some ⟨.slice 27, 1, 24, [.lst 0 []]⟩ := rfl
@[simp] theorem agg_114 : Tab.agg tab 114 = false := rfl
@[simp] theorem flat_114 : Tab.flat tab 114 = true := rfl
@[simp] theorem size_114 : Tab.size tab 114 = 1 := rfl
@[simp] theorem tab_121 : tab 121 = some ⟨.int .i8, 1, 1, [.int .i8 0]⟩ := rfl
@[simp] theorem agg_121 : Tab.agg tab 121 = false := rfl
@[simp] theorem flat_121 : Tab.flat tab 121 = true := rfl
@[simp] theorem size_121 : Tab.size tab 121 = 1 := rfl
@[simp] theorem tab_122 : tab 122 = some ⟨.array 2 121, 2, 2, [.int .i8 0, .int .i8 0]⟩ := rfl
@[simp] theorem agg_122 : Tab.agg tab 122 = true := rfl
@[simp] theorem flat_122 : Tab.flat tab 122 = false := rfl
@[simp] theorem size_122 : Tab.size tab 122 = 2 := rfl
@[simp] theorem tab_134 : tab 134 = some ⟨.struct [(0, 1), (1, 1)], 2, 32, [.lst 0 [], .int .i64 0]⟩ := rfl
@[simp] theorem agg_134 : Tab.agg tab 134 = true := rfl
@[simp] theorem flat_134 : Tab.flat tab 134 = false := rfl
@[simp] theorem size_134 : Tab.size tab 134 = 2 := rfl
@[simp] theorem tab_138 : tab 138 = some ⟨.slice 143, 1, 24, [.lst 0 []]⟩ := rfl
@[simp] theorem agg_138 : Tab.agg tab 138 = false := rfl
@[simp] theorem flat_138 : Tab.flat tab 138 = true := rfl
@[simp] theorem size_138 : Tab.size tab 138 = 1 := rfl
@[simp] theorem tab_143 : tab 143 = some ⟨.struct [(0, 1), (1, 1)], 2, 32, [.lst 0 [], .int .i64 0]⟩ := rfl
@[simp] theorem agg_143 : Tab.agg tab 143 = true := rfl
@[simp] theorem flat_143 : Tab.flat tab 143 = false := rfl
@[simp] theorem size_143 : Tab.size tab 143 = 2 := rfl
@[simp] theorem tab_144 : tab 144 = some ⟨.int .i16, 1, 2, [.int .i16 0]⟩ := rfl
@[simp] theorem agg_144 : Tab.agg tab 144 = false := rfl
@[simp] theorem flat_144 : Tab.flat tab 144 = true := rfl
@[simp] theorem size_144 : Tab.size tab 144 = 1 := rfl
@[simp] theorem tab_150 : tab 150 = some ⟨.array 4 5, 4, 4, [.int .u8 0, .int .u8 0, .int .u8 0, .int .u8 0]⟩ := rfl
@[simp] theorem agg_150 : Tab.agg tab 150 = true := rfl
@[simp] theorem flat_150 : Tab.flat tab 150 = false := rfl
@[simp] theorem size_150 : Tab.size tab 150 = 4 := rfl
@[simp] theorem tab_158 : tab 158 = some ⟨.int .u64, 1, 8, [.int .u64 0]⟩ := rfl
@[simp] theorem agg_158 : Tab.agg tab 158 = false := rfl
@[simp] theorem flat_158 : Tab.flat tab 158 = true := rfl
@[simp] theorem size_158 : Tab.size tab 158 = 1 := rfl
@[simp] theorem tab_160 : tab 160 = some ⟨.array 3 72, 3, 72, [.lst 0 [], .lst 0 [], .lst 0 []]⟩ := rfl
@[simp] theorem agg_160 : Tab.agg tab 160 = true := rfl
@[simp] theorem flat_160 : Tab.flat tab 160 = false := rfl
@[simp] theorem size_160 : Tab.size tab 160 = 3 := rfl
@[simp] theorem tab_167 : tab 167 = some ⟨.int .u64, 1, 8, [.int .u64 0]⟩ := rfl
@[simp] theorem agg_167 : Tab.agg tab 167 = false := rfl
@[simp] theorem flat_167 : Tab.flat tab 167 = true := rfl
@[simp] theorem size_167 : Tab.size tab 167 = 1 := rfl
@[simp] theorem tab_169 : tab 169 = some ⟨.slice 2, 1, 24, [.lst 0 []]⟩ := rfl
@[simp] theorem agg_169 : Tab.agg tab 169 = false := rfl
@[simp] theorem flat_169 : Tab.flat tab 169 = true := rfl
@[simp] theorem size_169 : Tab.size tab 169 = 1 := rfl
@[simp] theorem tab_173 : tab 173 = some ⟨.array 3 121, 3, 3, [.int .i8 0, .int .i8 0, .int .i8 0]⟩ := rfl
@[simp] theorem agg_173 : Tab.agg tab 173 = true := rfl
@[simp] theorem flat_173 : Tab.flat tab 173 = false := rfl
@[simp] theorem size_173 : Tab.size tab 173 = 3 := rfl
@[simp] theorem tab_174 : tab 174 = some ⟨.slice 29, 1, 24, [.lst 0 []]⟩ := rfl
@[simp] theorem agg_174 : Tab.agg tab 174 = false := rfl
@[simp] theorem flat_174 : Tab.flat tab 174 = true := rfl
@[simp] theorem size_174 : Tab.size tab 174 = 1 := rfl
@[simp] theorem tab_180 : tab 180 = some ⟨.slice 43, 1, 24, [.lst 0 []]⟩ := rfl
@[simp] theorem agg_180 : Tab.agg tab 180 = false := rfl
@[simp] theorem flat_180 : Tab.flat tab 180 = true := rfl
@[simp] theorem size_180 : Tab.size tab 180 = 1 := rfl
@[simp] theorem tab_181 : tab 181 = some ⟨.slice 81, 1, 24, [.lst 0 []]⟩ := rfl
@[simp] theorem agg_181 : Tab.agg tab 181 = false := rfl
@[simp] theorem flat_181 : Tab.flat tab 181 = true := rfl
@[simp] theorem size_181 : Tab.size tab 181 = 1 := rfl

end Go.Abs

set_option linter.unusedVariables false
set_option linter.unusedSimpArgs false
namespace Go.Abs
open Go Go.Proofs

/-! ### Digits -/
def u32s (l : List Nat) : List D := l.map fun (d : Nat) => D.int .u32 d
def du (l : List Nat) : D := .lst l.length (u32s l)

@[simp] theorem u32s_len (l : List Nat) : (u32s l).length = l.length := by simp [u32s]
@[simp] theorem u32s_get (l : List Nat) (i : Nat) : (u32s l)[i]? = (l[i]?).map fun (d : Nat) => D.int .u32 d := by simp [u32s]
theorem u32s_take (l : List Nat) (n : Nat) : (u32s l).take n = u32s (l.take n) := by simp [u32s, List.map_take]
theorem u32s_drop (l : List Nat) (n : Nat) : (u32s l).drop n = u32s (l.drop n) := by simp [u32s, List.map_drop]

abbrev Dg (l : List Nat) : Prop := ∀ d ∈ l, d < 4294967296

def val : List Nat → Nat
  | [] => 0
  | d :: l => d + 4294967296 * val l

def dig (n : Nat) : List Nat := if h : n = 0 then [] else n % 4294967296 :: dig (n / 4294967296)
termination_by n
decreasing_by omega

theorem dig_zero : dig 0 = [] := by unfold dig; simp
theorem dig_pos {n : Nat} (h : n ≠ 0) : dig n = n % 4294967296 :: dig (n / 4294967296) := by rw [dig]; simp [h]
theorem dig_nil {n : Nat} : dig n = [] ↔ n = 0 := by
  constructor
  · intro h
    by_cases e : n = 0
    · exact e
    · rw [dig_pos e] at h; cases h
  · rintro rfl; exact dig_zero

theorem val_dig (n : Nat) : val (dig n) = n := by
  induction n using Nat.strongRecOn with
  | _ n ih =>
    by_cases h : n = 0
    · subst h; rw [dig_zero]; rfl
    · rw [dig_pos h, val, ih _ (by omega)]; omega

theorem dig_lt (n : Nat) : Dg (dig n) := by
  induction n using Nat.strongRecOn with
  | _ n ih =>
    by_cases h : n = 0
    · subst h; rw [dig_zero]; intro d hd; cases hd
    · rw [dig_pos h]
      intro d hd
      rcases List.mem_cons.1 hd with rfl | hd
      · omega
      · exact ih _ (by omega) d hd

theorem dig_cons {d n : Nat} (hd : d < 4294967296) (h : d + 4294967296 * n ≠ 0) : dig (d + 4294967296 * n) = d :: dig n := by
  rw [dig_pos h, show (d + 4294967296 * n) % 4294967296 = d by omega, show (d + 4294967296 * n) / 4294967296 = n by omega]

theorem can_dig : ∀ {l : List Nat}, Dg l → l.getLast? ≠ some 0 → l = dig (val l)
  | [], _, _ => by rw [val, dig_zero]
  | [d], h, hl => by
    have : d ≠ 0 := by intro e; subst e; simp at hl
    rw [val, dig_cons (h d (by simp)) (by simp [val, this])]; simp [val, dig_zero]
  | d :: e :: l, h, hl => by
    have ih := can_dig (l := e :: l) (fun x hx => h x (by simp [hx])) (by simpa using hl)
    have hv : val (e :: l) ≠ 0 := by
      intro h0
      rw [h0, dig_zero] at ih; cases ih
    rw [val, dig_cons (h d (by simp)) (by omega), ← ih]

theorem val_append : ∀ (l m : List Nat), val (l ++ m) = val l + 4294967296 ^ l.length * val m
  | [], m => by simp [val]
  | d :: l, m => by
    simp only [List.cons_append, val, val_append l m, List.length_cons, Nat.pow_succ, Nat.mul_add]
    grind

theorem val_take_succ {l : List Nat} {n x : Nat} (h : l[n]? = some x) : val (l.take (n + 1)) = val (l.take n) + 4294967296 ^ n * x := by
  have hn : n < l.length := (List.getElem?_eq_some_iff.1 h).1
  have : l.take (n + 1) = l.take n ++ [x] := by
    rw [List.take_add_one, h]; rfl
  rw [this, val_append, val, val, List.length_take, Nat.min_eq_left (by omega)]
  simp

theorem val_lt : ∀ {l : List Nat}, Dg l → val l < 4294967296 ^ l.length
  | [], _ => by simp [val]
  | d :: l, h => by
    have ih := val_lt (l := l) (fun x hx => h x (by simp [hx]))
    have := h d (by simp)
    rw [val, List.length_cons, Nat.pow_succ]
    omega

theorem dig_len {n k : Nat} (h : n < 4294967296 ^ k) : (dig n).length ≤ k := by
  induction k generalizing n with
  | zero => have : n = 0 := by simpa using h
            subst this; rw [dig_zero]; simp
  | succ k ih =>
    by_cases e : n = 0
    · subst e; rw [dig_zero]; simp
    · rw [dig_pos e, List.length_cons]
      have := ih (n := n / 4294967296) (by rw [Nat.pow_succ] at h; omega)
      omega

theorem dig_lt_of_len {n k : Nat} (h : (dig n).length ≤ k) : n < 4294967296 ^ k := by
  have h1 := val_lt (dig_lt n)
  rw [val_dig] at h1
  exact Nat.lt_of_lt_of_le h1 (Nat.pow_le_pow_right (by omega) h)

theorem dg_take {l : List Nat} (h : Dg l) (n : Nat) : Dg (l.take n) := fun d hd => h d (List.mem_of_mem_take hd)
theorem dg_get {l : List Nat} (h : Dg l) {n x : Nat} (hx : l[n]? = some x) : x < 4294967296 := h x (List.mem_of_getElem? hx)

theorem get_ex {α : Type} {l : List α} {i : Nat} (h : i < l.length) : ∃ x, l[i]? = some x := ⟨l[i], by simp [h]⟩

theorem u32s_set (l : List Nat) (i s : Nat) : (u32s l).set i (.int .u32 s) = u32s (l.set i s) := by simp [u32s, List.map_set]
theorem setCells_u32 (l : List Nat) (i s : Nat) : setCells (u32s l) i [.int .u32 s] = u32s (l.set i s) := u32s_set l i s
theorem zeros_u32 (n : Nat) : zeros n [.int .u32 0] = u32s (List.replicate n 0) := by
  unfold zeros u32s
  induction n with
  | zero => rfl
  | succ n ih => rw [List.replicate_succ, List.flatten_cons, ih, List.replicate_succ]; rfl
theorem take_set_le {l : List Nat} {i s : Nat} (n : Nat) (h : n ≤ i) : (l.set i s).take n = l.take n := by
  rw [List.take_set]; exact List.set_eq_of_length_le (by rw [List.length_take]; omega)
theorem val_set {l : List Nat} {i s : Nat} (h : i < l.length) : val ((l.set i s).take (i + 1)) = val (l.take i) + 4294967296 ^ i * s := by
  rw [val_take_succ (x := s) (by simp [h]), take_set_le _ (Nat.le_refl _)]
theorem dg_set {l : List Nat} (hl : Dg l) {i s : Nat} (h : s < 4294967296) : Dg (l.set i s) := fun d hd => by
  rcases List.mem_or_eq_of_mem_set hd with h1 | h1
  · exact hl d h1
  · omega
theorem dg_zeros (n : Nat) : Dg (List.replicate n 0) := fun d hd => by rw [List.mem_replicate] at hd; omega

theorem carry_step {o u v : List Nat} {i c p q : Nat} (ho : i < o.length) (hp : u[i]? = some p) (hq : v[i]? = some q)
    (h : val (o.take i) + 4294967296 ^ i * c = val (u.take i) + val (v.take i)) :
    val ((o.set i ((p + q + c) % 4294967296)).take (i + 1)) + 4294967296 ^ (i + 1) * ((p + q + c) / 4294967296) = val (u.take (i + 1)) + val (v.take (i + 1)) := by
  rw [val_set ho, val_take_succ hp, val_take_succ hq, Nat.pow_succ]
  have e : p + q + c = 4294967296 * ((p + q + c) / 4294967296) + (p + q + c) % 4294967296 := by omega
  generalize (p + q + c) / 4294967296 = d at *
  generalize (p + q + c) % 4294967296 = s at *
  generalize 4294967296 ^ i = B at *
  have : B * (p + q + c) = B * (4294967296 * d + s) := by rw [e]
  grind
theorem carry_step1 {o u : List Nat} {i c p V : Nat} (ho : i < o.length) (hp : u[i]? = some p)
    (h : val (o.take i) + 4294967296 ^ i * c = val (u.take i) + V) :
    val ((o.set i ((p + 0 + c) % 4294967296)).take (i + 1)) + 4294967296 ^ (i + 1) * ((p + 0 + c) / 4294967296) = val (u.take (i + 1)) + V := by
  rw [val_set ho, val_take_succ hp, Nat.pow_succ]
  have e : p + 0 + c = 4294967296 * ((p + 0 + c) / 4294967296) + (p + 0 + c) % 4294967296 := by omega
  generalize (p + 0 + c) / 4294967296 = d at *
  generalize (p + 0 + c) % 4294967296 = s at *
  generalize 4294967296 ^ i = B at *
  have : B * (p + 0 + c) = B * (4294967296 * d + s) := by rw [e]
  grind

theorem own_du {l : List Nat} {n : Nat} (h : l.length = n) : D.lst n (((u32s l).drop 0).take n) = du l := by
  subst h; rw [List.drop_zero, List.take_of_length_le (by simp)]; rfl

theorem val_take_D (l : List Nat) (i : Nat) : val (l.take (i + 1)) = val (l.take i) + 4294967296 ^ i * l.getD i 0 := by
  cases h : l[i]? with
  | some x => rw [val_take_succ h, List.getD_eq_getElem?_getD, h]; rfl
  | none =>
    have := List.getElem?_eq_none_iff.1 h
    rw [List.take_of_length_le (by omega), List.take_of_length_le this, List.getD_eq_getElem?_getD, h]; simp
theorem dg_getD {l : List Nat} (h : Dg l) (i : Nat) : l.getD i 0 < 4294967296 := by
  rw [List.getD_eq_getElem?_getD]
  cases e : l[i]? with
  | none => simp
  | some x => exact dg_get h e
theorem borrow_step {o u v : List Nat} {i c p q s d : Nat} (ho : i < o.length) (hp : u[i]? = some p) (hq : v.getD i 0 = q) (hp' : p < 4294967296) (hq' : q < 4294967296) (hc : c ≤ 1)
    (hs : s = (p + 4294967296 + 4294967296 - q - c) % 4294967296) (hd : d = if p < q + c then 1 else 0)
    (h : val (o.take i) + val (v.take i) = val (u.take i) + 4294967296 ^ i * c) :
    val ((o.set i s).take (i + 1)) + val (v.take (i + 1)) = val (u.take (i + 1)) + 4294967296 ^ (i + 1) * d := by
  rw [val_set ho, val_take_succ hp, val_take_D v, hq, Nat.pow_succ]
  have e : s + q + c = p + 4294967296 * d := by subst hs hd; split <;> omega
  generalize 4294967296 ^ i = B at *
  have : B * (s + q + c) = B * (p + 4294967296 * d) := by rw [e]
  grind

theorem drop_set_lt {l : List Nat} {i s n : Nat} (h : i < n) : (l.set i s).drop n = l.drop n := List.drop_set_of_lt h
theorem get_drop_eq {o O : List Nat} {n : Nat} (h : o.drop n = O.drop n) {k : Nat} (hk : n ≤ k) : o[k]? = O[k]? := by
  have := congrArg (fun l => l[k - n]?) h
  simp only [List.getElem?_drop] at this
  rwa [show n + (k - n) = k by omega] at this

theorem mul_step {o O v : List Nat} {i j c p q w T : Nat} (ho : i + j < o.length) (hw : O[i + j]? = some w) (hq : v[j]? = some q)
    (hT : T = p * q + w + c)
    (h : val (o.take (i + j)) + 4294967296 ^ (i + j) * c = val (O.take (i + j)) + 4294967296 ^ i * p * val (v.take j)) :
    val ((o.set (i + j) (T % 4294967296)).take (i + j + 1)) + 4294967296 ^ (i + j + 1) * (T / 4294967296) = val (O.take (i + j + 1)) + 4294967296 ^ i * p * val (v.take (j + 1)) := by
  rw [val_set ho, val_take_succ hw, val_take_succ hq, Nat.pow_succ]
  have e : 4294967296 * (T / 4294967296) + T % 4294967296 = p * q + w + c := by omega
  have e2 : 4294967296 ^ (i + j) = 4294967296 ^ i * 4294967296 ^ j := Nat.pow_add _ _ _
  generalize T / 4294967296 = d at *
  generalize T % 4294967296 = s at *
  generalize 4294967296 ^ i = A at *
  generalize 4294967296 ^ j = B at *
  generalize 4294967296 ^ (i + j) = E at *
  have : E * (4294967296 * d + s) = E * (p * q + w + c) := by rw [e]
  grind

/-- the two words of a product and what is carried -/
theorem mul_words {p q w c : Nat} (hp : p < 4294967296) (hq : q < 4294967296) (hw : w < 4294967296) (hc : c < 4294967296) :
    let lo1 := (p * q % 4294967296 + w + 0) % 4294967296
    let hi1 := p * q / 4294967296 + (p * q % 4294967296 + w + 0) / 4294967296
    let T := p * q + w + c
    hi1 < 4294967296 ∧ (lo1 + c + 0) % 4294967296 = T % 4294967296 ∧ hi1 + (lo1 + c + 0) / 4294967296 = T / 4294967296 ∧ T / 4294967296 < 4294967296 := by
  have h1 : p * q ≤ 4294967295 * 4294967295 := Nat.mul_le_mul (by omega) (by omega)
  dsimp only
  generalize p * q = z at *
  refine ⟨by omega, by omega, by omega, by omega⟩

theorem val_zeros (n : Nat) : val (List.replicate n 0) = 0 := by
  induction n with
  | zero => rfl
  | succ n ih => rw [List.replicate_succ, val, ih]

/-! ### Ends of a call -/
theorem retD {T : Tab} {t : Nat} {s : St} {v : V} (h : s.get t = v) : RetOk T [.tmp t] v [] s := .inl ⟨h, trivial⟩
theorem ret2 {T : Tab} {t u : Nat} {s : St} {v w : V} (h : s.get t = v) (h2 : s.get u = w) : RetOk T [.tmp t, .tmp u] (.tup [v, w]) [] s := .inl ⟨by rw [← h, ← h2]; rfl, trivial⟩
theorem retNil {T : Tab} {t : Nat} {s : St} (h : s.get t = .nil) : RetOk T [.tmp t] (.d (.lst 0 [])) [] s := by
  refine .inr ?_
  unfold frzArgs frzArg
  rw [h]
  exact ⟨rfl, trivial⟩

theorem ret2Nil {T : Tab} {t u : Nat} {s : St} {d : D} (h : s.get t = .nil) (h2 : s.get u = .d d) : RetOk T [.tmp t, .tmp u] (.tup [.d (.lst 0 []), .d d]) [] s := by
  refine .inr ?_
  show frzArgs s.blk [s.get t, s.get u] _
  rw [h, h2]
  exact ⟨rfl, trivial⟩

theorem fn0 {f : Nat} {fn : Func} {c : Code} {args : List V} {r : V} {res : List ResultVar} {nt : Nat}
    (hf : Try.prog.funcs[f]? = some fn) (hb : fn.body = some c) (hn : (fn.name == "runtime.NumGoroutine") = false) (hnt : fn.ntmps = nt) (hle : Nat.ble args.length nt = true) (hres : fn.results = res.toArray) (hrefs : V.refsL args = [])
    (h : ∀ C : Ctx, C.P = Try.prog → C.nt = nt → C.lids = [] → AWP C c ⟨envOf 0 args, [], 0⟩ (fun e s' => (e = .ret ∨ e = .normal) ∧ RetOk tab res r [] s')) : Fn Try.prog f args [] r [] :=
  fn_intro prog_ok hf hb hn (by rw [hnt]; exact Nat.le_of_ble_eq_true hle) hres (by simp) (by rw [hrefs]; simp) (fun C h1 h2 h3 => h C h1 (by rw [h2, hnt]) h3)

theorem dig_ge {n k : Nat} (h : k < (dig n).length) : 4294967296 ^ k ≤ n := by
  induction k generalizing n with
  | zero => by_cases e : n = 0
            · subst e; rw [dig_zero] at h; simp at h
            · simp; omega
  | succ k ih =>
    by_cases e : n = 0
    · subst e; rw [dig_zero] at h; simp at h
    · rw [dig_pos e, List.length_cons] at h
      have := ih (n := n / 4294967296) (by omega)
      rw [Nat.pow_succ]; omega

def cmpI (x y : Nat) : Int := if x > y then 1 else if x < y then -1 else 0

theorem val_take_lt {l : List Nat} (h : Dg l) (n : Nat) : val (l.take n) < 4294967296 ^ n :=
  Nat.lt_of_lt_of_le (val_lt (dg_take h n)) (Nat.pow_le_pow_right (by omega) (by rw [List.length_take]; omega))

theorem dig_le {l : List Nat} (h : Dg l) : (dig (val l)).length ≤ l.length := dig_len (val_lt h)

theorem u32w {x : Int} (h1 : 0 ≤ x) (h2 : x < 4294967296) : IntKind.u32.wrap x = x := IntWalk.u32_in _ (by omega)
theorem u64w {x : Int} (h1 : 0 ≤ x) (h2 : x < 18446744073709551616) : IntKind.u64.wrap x = x := IntWalk.u64_in _ (by omega)
end Go.Abs

set_option linter.unusedVariables false
set_option linter.unusedSimpArgs false
namespace Go.Abs
open Go Go.Proofs
set_option maxRecDepth 100000
theorem trim_fn (l : List Nat) (h : l.length ≤ 2 ^ 60) (hd : Dg l) : Fn Try.prog 212 [.d (du l)] [] (.d (du (dig (val l)))) [] := by
  refine fn_intro prog_ok (nx := 0) (res := [.tmp 2]) Try.func212 rfl (by decide) (by simp [Try.f212]) rfl (by simp) (by simp) ?_
  intro C hP hnt hl
  replace hnt : C.nt = 23 := hnt
  replace hl : C.lids = [] := hl
  refine awp_sx prog_ok hP hnt [] [] [] [0] (by kernel_rfl) (G := fun K => K (St.mk [(0, V.d (du l))] [] 1)) (fun K => by kernel_rfl) ?_
  refine awp_sx prog_ok hP hnt [] [] [] [0, 3] (by kernel_rfl) (G := fun K => K (St.mk [(0, V.d (du l)), (3, V.d (D.int IntKind.i64 (↑l.length : Int)))] [] 4)) (fun K => by kernel_rfl) ?_
  refine awp_cut (ι := Nat) (fun n => ⟨[(0, .d (du l)), (3, .d (.int .i64 n))], [], 0⟩) (fun n => n ≤ l.length ∧ l.take n = dig (val l)) ?_ ?_
  · refine awp_block ?_
    refine awp_loop (ι := Nat) (fun n => ⟨[(0, .d (du l)), (3, .d (.int .i64 n))], [], 0⟩) (fun n => n ≤ l.length ∧ val (l.take n) = val l) (fun n => n) l.length [] ⟨Nat.le_refl _, by simp⟩ ?_ ?_
    · constructor <;> simp [hl, envOk, memOk, conv, St.get]
    intro n ⟨hn, ht⟩
    refine awp_seq_k fun K2 hK2 => ?_
    by_cases h0 : n = 0
    · subst h0
      refine awp_sx prog_ok hP hnt [(8, .bool false)] [] [] [0, 3, 15] (by kernel_rfl) (G := fun K => decide ((↑0 : Int) > (0 : Int)) = false ∧ K (St.mk [(0, V.d (du l)), (3, V.d (D.int IntKind.i64 (↑0 : Int))), (15, V.d (D.bool false))] [] 10)) (fun K => by kernel_rfl) ?_
      refine ⟨rfl, awp_cond (b := false) rfl nofun fun _ => awp_exit ⟨0, [], ⟨by omega, ?_⟩, ?_⟩⟩
      · rw [← ht]; simp [val, dig_zero]
      · constructor <;> simp [hl, envOk, memOk, conv, St.get]
    · obtain ⟨x, h3⟩ := get_ex (l := l) (i := n - 1) (by omega)
      have h4 := val_take_succ h3
      rw [show n - 1 + 1 = n by omega] at h4
      refine awp_sx prog_ok hP hnt [(8, .bool true), (11, .int .i64 (n - 1 : Nat))] [] [some [.int .u32 x]] [0, 3, 15] (by kernel_rfl) (G := fun K => decide ((↑n : Int) > (0 : Int)) = true ∧ IntKind.i64.wrap ((↑n : Int) - (1 : Int)) = (↑(n - 1) : Int) ∧ ((0 : Int) ≤ (↑(n - 1) : Int) ∧ (↑(n - 1) : Int) < (↑l.length : Int) ∧ ((↑(n - 1) : Int).toNat + 1) * 1 ≤ (u32s l).length) ∧ (List.drop ((↑(n - 1) : Int).toNat * 1) (u32s l))[0]? = some (D.int IntKind.u32 (↑x : Int)) ∧ K (St.mk [(0, V.d (du l)), (3, V.d (D.int IntKind.i64 (↑n : Int))), (15, V.d (D.bool ((↑x : Int) == (0 : Int))))] [] 10)) (fun K => by kernel_rfl) ?_
      refine ⟨by simp; omega, by rw [w64] <;> omega, ⟨by omega, by omega, by simp; omega⟩, by simp [h3], ?_⟩
      refine awp_cond (b := ((x : Int) == 0)) rfl (fun hb => awp_skip (hK2 _ ?_)) (fun hb => awp_exit ⟨n, [], ⟨hn, ?_⟩, ?_⟩)
      · refine awp_block ?_
        refine awp_x prog_ok hP hnt [(17, .int .i64 (n - 1 : Nat))] [] [] [0, 3] (by kernel_rfl) (G := fun K => IntKind.i64.wrap ((↑n : Int) - (1 : Int)) = (↑(n - 1) : Int) ∧ K (St.mk [(0, V.d (du l)), (3, V.d (D.int IntKind.i64 (↑(n - 1) : Int)))] [] 13)) (fun K => by kernel_rfl) ?_
        refine ⟨by rw [w64] <;> omega, n - 1, [], ⟨⟨by omega, ?_⟩, by omega⟩, ?_⟩
        · simp at hb; subst hb; rw [← ht, h4]; simp
        · constructor <;> simp [hl, envOk, memOk, conv, St.get]
      · rw [← ht]
        refine can_dig (dg_take hd n) ?_
        simp at hb
        rw [List.getLast?_take, if_neg h0, h3]
        simpa using hb
      · constructor <;> simp [hl, envOk, memOk, conv, St.get]
  · intro n ⟨hn, ht⟩
    refine awp_seq_k fun K hK => ?_
    refine awp_sx prog_ok hP hnt [] [] [] [0, 3, 19] (by kernel_rfl) (G := fun K => K (St.mk [(0, V.d (du l)), (3, V.d (D.int IntKind.i64 (↑n : Int))), (19, V.d (D.bool ((↑n : Int) == (0 : Int))))] [] 2)) (fun K => by kernel_rfl) ?_
    refine awp_cond rfl (fun hb => ?_) (fun hb => awp_skip (hK _ ?_))
    · refine awp_sx prog_ok hP hnt [] [] [] [2] (by kernel_rfl) (G := fun K => K (St.mk [(2, V.nil)] [] 3)) (fun K => by kernel_rfl) ?_
      refine awp_ret ⟨.inl rfl, ?_⟩
      simp at hb
      subst hb
      rw [← ht]
      exact retNil rfl
    · refine awp_sx prog_ok hP hnt [] [] [] [2] (by kernel_rfl) (G := fun K => ((0 : Int) ≤ (↑n : Int) ∧ (↑n : Int) ≤ (↑l.length : Int)) ∧ K (St.mk [(2, V.d (D.lst (↑n : Int).toNat (List.take ((↑n : Int).toNat * 1) (u32s l))))] [] 6)) (fun K => by kernel_rfl) ?_
      refine ⟨by omega, awp_ret ⟨.inl rfl, retD ?_⟩⟩
      simp [St.get, lookup_one, du, ← ht, u32s_take]
      omega
end Go.Abs

set_option linter.unusedVariables false
set_option linter.unusedSimpArgs false
namespace Go.Abs
open Go Go.Proofs
set_option maxRecDepth 100000


theorem isZero_fn (l : List Nat) (h : l.length ≤ 2 ^ 60) (hd : Dg l) : Fn Try.prog 187 [.d (du l)] [] (.d (.bool (decide (val l = 0)))) [] := by
  refine fn0 (nt := 7) (res := [.tmp 2]) Try.func187 rfl (by decide) rfl rfl rfl rfl ?_
  intro C hP hnt hl
  refine awp_sx prog_ok hP hnt [] [] [] [0] (by kernel_rfl) (G := fun K => K (St.mk [(0, V.d (du l))] [] 1)) (fun K => by kernel_rfl) ?_
  refine awp_sx prog_ok hP hnt [] [.val (.d (du (dig (val l))))] [] [2] (by kernel_rfl) (G := fun K => Fn Try.prog 212 [V.d (du l)] [] (V.d (du (dig (val l)))) [] ∧ K (St.mk [(2, V.d (D.bool ((↑(dig (val l)).length : Int) == (0 : Int))))] [] 6)) (fun K => by kernel_rfl) ?_
  refine ⟨trim_fn l h hd, awp_ret ⟨.inl rfl, retD ?_⟩⟩
  have : ((((dig (val l)).length : Int) == 0) : Bool) = decide (val l = 0) := by
    rw [Bool.eq_iff_iff]; simp [dig_nil]
  rw [← this]; rfl

theorem of_fn (n : Nat) (hn : n < 18446744073709551616) : Fn Try.prog 155 [.d (.int .u64 n)] [] (.d (du (dig n))) [] := by
  refine fn0 (nt := 10) (res := [.tmp 2]) Try.func155 rfl (by decide) rfl rfl rfl rfl ?_
  intro C hP hnt hl
  refine awp_sx prog_ok hP hnt [] [] [] [0] (by kernel_rfl) (G := fun K => K (St.mk [(0, V.d (D.int IntKind.u64 (↑n : Int)))] [] 1)) (fun K => by kernel_rfl) ?_
  have hv : val [n % 4294967296, n / 4294967296] = n := by simp only [val]; omega
  have ht := trim_fn [n % 4294967296, n / 4294967296] (by simp) (by intro d hd; simp at hd; omega)
  rw [hv] at ht
  refine awp_sx prog_ok hP hnt [(4, .int .u32 (n % 4294967296 : Nat)), (7, .int .u32 (n / 4294967296 : Nat))] [.val (.d (du (dig n)))] [] [2] (by kernel_rfl) (G := fun K => IntKind.u32.wrap (↑n : Int) = (↑(n % 4294967296) : Int) ∧ (0 : Int) ≤ (32 : Int) ∧ IntKind.u32.wrap ((↑n : Int).fdiv ((2 : Int) ^ min (Int.toNat (32 : Int)) IntKind.u64.bits)) = (↑(n / 4294967296) : Int) ∧ Fn Try.prog 212 [V.d (D.lst 2 [D.int IntKind.u32 (↑(n % 4294967296) : Int), D.int IntKind.u32 (↑(n / 4294967296) : Int)])] [] (V.d (du (dig n))) [] ∧ K (St.mk [(2, V.d (du (dig n)))] [] 9)) (fun K => by kernel_rfl) ?_
  refine ⟨?_, ?_, ?_, ht, awp_ret ⟨.inl rfl, retD rfl⟩⟩
  · rw [IntKind.wrap_u32]; omega
  · omega
  · rw [show (min (Int.toNat 32) IntKind.u64.bits) = 32 from rfl, Int.fdiv_eq_ediv_of_nonneg _ (by decide), IntKind.wrap_u32]; omega

theorem add32_fn (x y c : Nat) (hx : x < 4294967296) (hy : y < 4294967296) (hc : c < 4294967296) : Fn Try.prog 228 [.d (.int .u32 x), .d (.int .u32 y), .d (.int .u32 c)] []
    (.tup [.d (.int .u32 ((x + y + c) % 4294967296 : Nat)), .d (.int .u32 ((x + y + c) / 4294967296 : Nat))]) [] := by
  refine fn0 (nt := 22) (res := [.tmp 6, .tmp 7]) Try.func228 rfl (by decide) rfl rfl rfl rfl ?_
  intro C hP hnt hl
  refine awp_sx prog_ok hP hnt [] [] [] [0, 1, 2] (by kernel_rfl) (G := fun K => K (St.mk [(0, V.d (D.int IntKind.u32 (↑x : Int))), (1, V.d (D.int IntKind.u32 (↑y : Int))), (2, V.d (D.int IntKind.u32 (↑c : Int)))] [] 2)) (fun K => by kernel_rfl) ?_
  refine awp_sx prog_ok hP hnt [(10, .int .u64 x), (12, .int .u64 y), (15, .int .u64 c), (13, .int .u64 (x + y : Nat)), (16, .int .u64 (x + y + c : Nat))] [] [] [8] (by kernel_rfl) (G := fun K => IntKind.u64.wrap (↑x : Int) = (↑x : Int) ∧ IntKind.u64.wrap (↑y : Int) = (↑y : Int) ∧ IntKind.u64.wrap ((↑x : Int) + (↑y : Int)) = (↑(x + y) : Int) ∧ IntKind.u64.wrap (↑c : Int) = (↑c : Int) ∧ IntKind.u64.wrap ((↑(x + y) : Int) + (↑c : Int)) = (↑(x + y + c) : Int) ∧ K (St.mk [(8, V.d (D.int IntKind.u64 (↑(x + y + c) : Int)))] [] 11)) (fun K => by kernel_rfl) ?_
  refine ⟨u64w (by omega) (by omega), u64w (by omega) (by omega), by rw [u64w] <;> omega, u64w (by omega) (by omega), by rw [u64w] <;> omega, ?_⟩
  refine awp_sx prog_ok hP hnt [(18, .int .u32 ((x + y + c) % 4294967296 : Nat))] [] [] [6, 8] (by kernel_rfl) (G := fun K => IntKind.u32.wrap (↑(x + y + c) : Int) = (↑((x + y + c) % 4294967296) : Int) ∧ K (St.mk [(8, V.d (D.int IntKind.u64 (↑(x + y + c) : Int))), (6, V.d (D.int IntKind.u32 (↑((x + y + c) % 4294967296) : Int)))] [] 14)) (fun K => by kernel_rfl) ?_
  refine ⟨by rw [IntKind.wrap_u32]; omega, ?_⟩
  refine awp_sx prog_ok hP hnt [(21, .int .u32 ((x + y + c) / 4294967296 : Nat))] [] [] [6, 7] (by kernel_rfl) (G := fun K => (0 : Int) ≤ (32 : Int) ∧ IntKind.u32.wrap ((↑(x + y + c) : Int).fdiv ((2 : Int) ^ min (Int.toNat (32 : Int)) IntKind.u64.bits)) = (↑((x + y + c) / 4294967296) : Int) ∧ K (St.mk [(6, V.d (D.int IntKind.u32 (↑((x + y + c) % 4294967296) : Int))), (7, V.d (D.int IntKind.u32 (↑((x + y + c) / 4294967296) : Int)))] [] 18)) (fun K => by kernel_rfl) ?_
  refine ⟨by omega, ?_, awp_ret ⟨.inl rfl, ret2 rfl rfl⟩⟩
  rw [show (min (Int.toNat 32) IntKind.u64.bits) = 32 from rfl, Int.fdiv_eq_ediv_of_nonneg _ (by decide), IntKind.wrap_u32]; omega

theorem mul32_fn (x y : Nat) (hx : x < 4294967296) (hy : y < 4294967296) : Fn Try.prog 232 [.d (.int .u32 x), .d (.int .u32 y)] []
    (.tup [.d (.int .u32 (x * y / 4294967296 : Nat)), .d (.int .u32 (x * y % 4294967296 : Nat))]) [] := by
  refine fn0 (nt := 17) (res := [.tmp 4, .tmp 5]) Try.func232 rfl (by decide) rfl rfl rfl rfl ?_
  intro C hP hnt hl
  have h1 : x * y ≤ 4294967295 * 4294967295 := Nat.mul_le_mul (by omega) (by omega)
  refine awp_sx prog_ok hP hnt [] [] [] [0, 1] (by kernel_rfl) (G := fun K => K (St.mk [(0, V.d (D.int IntKind.u32 (↑x : Int))), (1, V.d (D.int IntKind.u32 (↑y : Int)))] [] 2)) (fun K => by kernel_rfl) ?_
  refine awp_sx prog_ok hP hnt [(8, .int .u64 x), (10, .int .u64 y), (11, .int .u64 (x * y : Nat))] [] [] [6] (by kernel_rfl) (G := fun K => IntKind.u64.wrap (↑x : Int) = (↑x : Int) ∧ IntKind.u64.wrap (↑y : Int) = (↑y : Int) ∧ IntKind.u64.wrap ((↑x : Int) * (↑y : Int)) = (↑(x * y) : Int) ∧ K (St.mk [(6, V.d (D.int IntKind.u64 (↑(x * y) : Int)))] [] 8)) (fun K => by kernel_rfl) ?_
  refine ⟨u64w (by omega) (by omega), u64w (by omega) (by omega), by rw [← Int.natCast_mul, u64w] <;> omega, ?_⟩
  generalize x * y = z at *
  refine awp_sx prog_ok hP hnt [(14, .int .u32 (z / 4294967296 : Nat)), (16, .int .u32 (z % 4294967296 : Nat))] [] [] [4, 5] (by kernel_rfl) (G := fun K => (0 : Int) ≤ (32 : Int) ∧ IntKind.u32.wrap ((↑z : Int).fdiv ((2 : Int) ^ min (Int.toNat (32 : Int)) IntKind.u64.bits)) = (↑(z / 4294967296) : Int) ∧ IntKind.u32.wrap (↑z : Int) = (↑(z % 4294967296) : Int) ∧ K (St.mk [(4, V.d (D.int IntKind.u32 (↑(z / 4294967296) : Int))), (5, V.d (D.int IntKind.u32 (↑(z % 4294967296) : Int)))] [] 15)) (fun K => by kernel_rfl) ?_
  refine ⟨by omega, ?_, ?_, awp_ret ⟨.inl rfl, ret2 rfl rfl⟩⟩
  · rw [show (min (Int.toNat 32) IntKind.u64.bits) = 32 from rfl, Int.fdiv_eq_ediv_of_nonneg _ (by decide), IntKind.wrap_u32]; omega
  · rw [IntKind.wrap_u32]; omega
end Go.Abs

set_option linter.unusedVariables false
set_option linter.unusedSimpArgs false
namespace Go.Abs
open Go Go.Proofs
set_option maxRecDepth 100000

theorem bv_back (X : BitVec 32) : BitVec.ofInt 32 (X.toNat : Int) = X := by simp
theorem bv_w (X : BitVec 32) : IntKind.u32.wrap (X.toNat : Int) = X.toNat := u32w (by omega) (by have := X.isLt; omega)
theorem bv_top (Z : BitVec 32) : Z.toNat / 2 ^ 31 = if Z.msb then 1 else 0 := by
  have := Z.isLt
  rw [BitVec.msb_eq_decide]
  simp only [decide_eq_true_eq]
  split <;> omega

theorem sub32_bv (X Y : BitVec 32) (b c : Nat) (hb : b ≤ 1) (hc : c = if X.toNat < Y.toNat + b then 1 else 0) : Fn Try.prog 229 [.d (.int .u32 X.toNat), .d (.int .u32 Y.toNat), .d (.int .u32 b)] []
    (.tup [.d (.int .u32 (X - Y - BitVec.ofNat 32 b).toNat), .d (.int .u32 c)]) [] := by
  refine fn0 (nt := 25) (res := [.tmp 6, .tmp 7]) Try.func229 rfl (by decide) rfl rfl rfl rfl ?_
  intro C hP hnt hl
  have hx := X.isLt
  have hy := Y.isLt
  have hd1 : (X - Y).toNat = (4294967296 - Y.toNat + X.toNat) % 4294967296 := by rw [BitVec.toNat_sub]
  have hd2 : (X - Y - BitVec.ofNat 32 b).toNat = (4294967296 - b + (4294967296 - Y.toNat + X.toNat) % 4294967296) % 4294967296 := by
    rw [BitVec.toNat_sub, hd1, BitVec.toNat_ofNat]; omega
  refine awp_sx prog_ok hP hnt [] [] [] [0, 1, 2] (by kernel_rfl) (G := fun K => K (St.mk [(0, V.d (D.int IntKind.u32 (↑X.toNat : Int))), (1, V.d (D.int IntKind.u32 (↑Y.toNat : Int))), (2, V.d (D.int IntKind.u32 (↑b : Int)))] [] 2)) (fun K => by kernel_rfl) ?_
  refine awp_sx prog_ok hP hnt [(10, .int .u32 (X - Y).toNat), (12, .int .u32 (X - Y - BitVec.ofNat 32 b).toNat)] [] [] [0, 1, 6] (by kernel_rfl) (G := fun K => IntKind.u32.wrap ((↑X.toNat : Int) - (↑Y.toNat : Int)) = (↑(X - Y).toNat : Int) ∧ IntKind.u32.wrap ((↑(X - Y).toNat : Int) - (↑b : Int)) = (↑(X - Y - BitVec.ofNat 32 b).toNat : Int) ∧ K (St.mk [(0, V.d (D.int IntKind.u32 (↑X.toNat : Int))), (1, V.d (D.int IntKind.u32 (↑Y.toNat : Int))), (6, V.d (D.int IntKind.u32 (↑(X - Y - BitVec.ofNat 32 b).toNat : Int)))] [] 8)) (fun K => by kernel_rfl) ?_
  refine ⟨?_, ?_, ?_⟩
  · rw [IntKind.wrap_u32, hd1]; omega
  · rw [IntKind.wrap_u32, hd1, hd2]; omega
  generalize X - Y - BitVec.ofNat 32 b = Dv at *
  refine awp_sx prog_ok hP hnt [(14, .int .u32 (~~~X).toNat), (16, .int .u32 (~~~X &&& Y).toNat), (19, .int .u32 (X ^^^ Y).toNat), (20, .int .u32 (~~~(X ^^^ Y)).toNat), (22, .int .u32 (~~~(X ^^^ Y) &&& Dv).toNat), (23, .int .u32 ((~~~X &&& Y) ||| (~~~(X ^^^ Y) &&& Dv)).toNat), (24, .int .u32 c)] [] [] [6, 7] (by kernel_rfl) (G := fun K => IntKind.u32.wrap (↑(BitVec.ofInt IntKind.u32.bits (if IntKind.u32.signed = true then (-1 : Int) else IntKind.u32.max) ^^^ BitVec.ofInt IntKind.u32.bits (↑X.toNat : Int)).toNat : Int) = (↑(~~~X).toNat : Int) ∧ IntKind.u32.wrap (↑(BitVec.ofInt IntKind.u32.bits (↑(~~~X).toNat : Int) &&& BitVec.ofInt IntKind.u32.bits (↑Y.toNat : Int)).toNat : Int) = (↑(~~~X &&& Y).toNat : Int) ∧ IntKind.u32.wrap (↑(BitVec.ofInt IntKind.u32.bits (↑X.toNat : Int) ^^^ BitVec.ofInt IntKind.u32.bits (↑Y.toNat : Int)).toNat : Int) = (↑(X ^^^ Y).toNat : Int) ∧ IntKind.u32.wrap (↑(BitVec.ofInt IntKind.u32.bits (if IntKind.u32.signed = true then (-1 : Int) else IntKind.u32.max) ^^^ BitVec.ofInt IntKind.u32.bits (↑(X ^^^ Y).toNat : Int)).toNat : Int) = (↑(~~~(X ^^^ Y)).toNat : Int) ∧ IntKind.u32.wrap (↑(BitVec.ofInt IntKind.u32.bits (↑(~~~(X ^^^ Y)).toNat : Int) &&& BitVec.ofInt IntKind.u32.bits (↑Dv.toNat : Int)).toNat : Int) = (↑(~~~(X ^^^ Y) &&& Dv).toNat : Int) ∧ IntKind.u32.wrap (↑(BitVec.ofInt IntKind.u32.bits (↑(~~~X &&& Y).toNat : Int) ||| BitVec.ofInt IntKind.u32.bits (↑(~~~(X ^^^ Y) &&& Dv).toNat : Int)).toNat : Int) = (↑(~~~X &&& Y ||| ~~~(X ^^^ Y) &&& Dv).toNat : Int) ∧ (0 : Int) ≤ (31 : Int) ∧ (↑(~~~X &&& Y ||| ~~~(X ^^^ Y) &&& Dv).toNat : Int).fdiv ((2 : Int) ^ min (Int.toNat (31 : Int)) IntKind.u32.bits) = (↑c : Int) ∧ K (St.mk [(6, V.d (D.int IntKind.u32 (↑Dv.toNat : Int))), (7, V.d (D.int IntKind.u32 (↑c : Int)))] [] 21)) (fun K => by kernel_rfl) ?_
  have h1 : BitVec.ofInt 32 IntKind.u32.max = ~~~(0 : BitVec 32) := by decide
  have hn : ∀ Z : BitVec 32, IntKind.u32.wrap ((BitVec.ofInt 32 IntKind.u32.max ^^^ BitVec.ofInt 32 (Z.toNat : Int)).toNat : Int) = ((~~~Z).toNat : Int) := fun Z => by
    rw [bv_w, bv_back, h1]
    congr 2
  have ha : ∀ Z W : BitVec 32, IntKind.u32.wrap ((BitVec.ofInt 32 (Z.toNat : Int) &&& BitVec.ofInt 32 (W.toNat : Int)).toNat : Int) = ((Z &&& W).toNat : Int) := fun Z W => by rw [bv_w, bv_back, bv_back]
  have hxor : ∀ Z W : BitVec 32, IntKind.u32.wrap ((BitVec.ofInt 32 (Z.toNat : Int) ^^^ BitVec.ofInt 32 (W.toNat : Int)).toNat : Int) = ((Z ^^^ W).toNat : Int) := fun Z W => by rw [bv_w, bv_back, bv_back]
  have hor : ∀ Z W : BitVec 32, IntKind.u32.wrap ((BitVec.ofInt 32 (Z.toNat : Int) ||| BitVec.ofInt 32 (W.toNat : Int)).toNat : Int) = ((Z ||| W).toNat : Int) := fun Z W => by rw [bv_w, bv_back, bv_back]
  refine ⟨hn X, ha _ _, hxor _ _, hn _, ha _ _, hor _ _, by omega, ?_, awp_ret ⟨.inl rfl, ret2 rfl rfl⟩⟩
  rw [show (2 : Int) ^ min (Int.toNat 31) IntKind.u32.bits = ((2 ^ 31 : Nat) : Int) from rfl, Int.fdiv_eq_ediv_of_nonneg _ (by omega), ← Int.natCast_ediv, bv_top]
  congr 1
  subst hc
  have mX := BitVec.msb_eq_decide X
  have mY := BitVec.msb_eq_decide Y
  have mD := BitVec.msb_eq_decide Dv
  rw [BitVec.msb_or, BitVec.msb_and, BitVec.msb_and, BitVec.msb_not, BitVec.msb_not, BitVec.msb_xor, mX, mY, mD]
  by_cases hX : 2 ^ 31 ≤ X.toNat <;> by_cases hY : 2 ^ 31 ≤ Y.toNat <;> by_cases hD : 2 ^ 31 ≤ Dv.toNat <;> simp [hX, hY, hD] <;> omega

theorem sub32_fn (x y b d c : Nat) (hx : x < 4294967296) (hy : y < 4294967296) (hb : b ≤ 1) (hd : d = (x + 4294967296 + 4294967296 - y - b) % 4294967296) (hc : c = if x < y + b then 1 else 0) :
    Fn Try.prog 229 [.d (.int .u32 x), .d (.int .u32 y), .d (.int .u32 b)] [] (.tup [.d (.int .u32 d), .d (.int .u32 c)]) [] := by
  have h1 : (BitVec.ofNat 32 x).toNat = x := by rw [BitVec.toNat_ofNat]; omega
  have h2 : (BitVec.ofNat 32 y).toNat = y := by rw [BitVec.toNat_ofNat]; omega
  have := sub32_bv (BitVec.ofNat 32 x) (BitVec.ofNat 32 y) b c hb (by rw [h1, h2]; exact hc)
  have hd2 : (BitVec.ofNat 32 x - BitVec.ofNat 32 y - BitVec.ofNat 32 b).toNat = d := by
    rw [BitVec.toNat_sub, BitVec.toNat_sub, h1, h2, BitVec.toNat_ofNat]; omega
  rw [h1, h2, hd2] at this
  exact this
end Go.Abs

set_option linter.unusedVariables false
set_option linter.unusedSimpArgs false
namespace Go.Abs
open Go Go.Proofs
set_option maxRecDepth 100000


theorem cmpI_gt {x y : Nat} (h : y < x) : cmpI x y = 1 := by simp [cmpI, h]
theorem cmpI_lt {x y : Nat} (h : x < y) : cmpI x y = -1 := by simp [cmpI, h]; omega
theorem cmpI_eq (x : Nat) : cmpI x x = 0 := by simp [cmpI]

theorem top_lt {u v : List Nat} {n x y X : Nat} (hu : Dg u) (hx : u[n]? = some x) (hy : v[n]? = some y) (h : x < y) : val (u.take (n + 1)) + X < val (v.take (n + 1)) + X := by
  rw [val_take_succ hx, val_take_succ hy]
  have h1 := val_take_lt hu n
  have h2 : 4294967296 ^ n * (x + 1) ≤ 4294967296 ^ n * y := Nat.mul_le_mul_left _ h
  rw [Nat.mul_add, Nat.mul_one] at h2
  omega

theorem cmp_fn (a b : List Nat) (ha : a.length ≤ 2 ^ 60) (hb : b.length ≤ 2 ^ 60) (da : Dg a) (db : Dg b) : Fn Try.prog 153 [.d (du a), .d (du b)] [] (.d (.int .i64 (cmpI (val a) (val b)))) [] := by
  refine fn0 (nt := 47) (res := [.tmp 4]) Try.func153 rfl (by decide) rfl rfl rfl rfl ?_
  intro C hP hnt hl
  refine awp_sx prog_ok hP hnt [] [] [] [0, 1] (by kernel_rfl) (G := fun K => K (St.mk [(0, V.d (du a)), (1, V.d (du b))] [] 1)) (fun K => by kernel_rfl) ?_
  refine awp_sx prog_ok hP hnt [] [.val (.d (du (dig (val a)))), .val (.d (du (dig (val b))))] [] [0, 1] (by kernel_rfl) (G := fun K => Fn Try.prog 212 [V.d (du a)] [] (V.d (du (dig (val a)))) [] ∧ Fn Try.prog 212 [V.d (du b)] [] (V.d (du (dig (val b)))) [] ∧ K (St.mk [(0, V.d (du (dig (val a)))), (1, V.d (du (dig (val b))))] [] 7)) (fun K => by kernel_rfl) ?_
  refine ⟨trim_fn a ha da, trim_fn b hb db, ?_⟩
  have la := dig_le da
  have lb := dig_le db
  generalize hx : val a = x at *
  generalize hy : val b = y at *
  have dx := dig_lt x
  have dy := dig_lt y
  have vx := val_dig x
  have vy := val_dig y
  have gx := @dig_ge x
  have gy := @dig_ge y
  have ltx := @dig_lt_of_len x
  have lty := @dig_lt_of_len y
  generalize dig x = u at *
  generalize dig y = v at *
  refine awp_seq_k fun K hK => ?_
  refine awp_block ?_
  refine awp_sx prog_ok hP hnt [] [] [] [0, 1, 10] (by kernel_rfl) (G := fun K => K (St.mk [(0, V.d (du u)), (1, V.d (du v)), (10, V.d (D.bool (decide ((↑u.length : Int) > (↑v.length : Int)))))] [] 13)) (fun K => by kernel_rfl) ?_
  refine awp_cond rfl (fun hb => ?_) (fun hb => ?_)
  · refine awp_sx prog_ok hP hnt [] [] [] [4] (by kernel_rfl) (G := fun K => K (St.mk [(4, V.d (D.int IntKind.i64 (1 : Int)))] [] 14)) (fun K => by kernel_rfl) ?_
    refine awp_ret ⟨.inl rfl, retD ?_⟩
    simp at hb
    rw [cmpI_gt (Nat.lt_of_lt_of_le (lty (k := v.length) (Nat.le_refl _)) (gx hb))]
    rfl
  simp at hb
  refine awp_sx prog_ok hP hnt [] [] [] [0, 1, 16] (by kernel_rfl) (G := fun K => K (St.mk [(0, V.d (du u)), (1, V.d (du v)), (16, V.d (D.bool (decide ((↑u.length : Int) < (↑v.length : Int)))))] [] 19)) (fun K => by kernel_rfl) ?_
  refine awp_cond rfl (fun hc => ?_) (fun hc => awp_skip (hK _ ?_))
  · refine awp_sx prog_ok hP hnt [] [] [] [4] (by kernel_rfl) (G := fun K => K (St.mk [(4, V.d (D.int IntKind.i64 (-1 : Int)))] [] 20)) (fun K => by kernel_rfl) ?_
    refine awp_ret ⟨.inl rfl, retD ?_⟩
    simp at hc
    rw [cmpI_lt (Nat.lt_of_lt_of_le (ltx (k := u.length) (Nat.le_refl _)) (gy hc))]
    rfl
  simp at hc
  have hlen : u.length = v.length := by omega
  refine awp_cut (ι := Unit) (fun _ => ⟨[], [], 0⟩) (fun _ => x = y) ?_ ?_
  · refine awp_sx prog_ok hP hnt [(24, .int .i64 ((u.length : Int) - 1))] [] [] [0, 1, 5] (by kernel_rfl) (G := fun K => IntKind.i64.wrap ((↑u.length : Int) - (1 : Int)) = (↑u.length : Int) - (1 : Int) ∧ K (St.mk [(0, V.d (du u)), (1, V.d (du v)), (5, V.d (D.int IntKind.i64 ((↑u.length : Int) - (1 : Int))))] [] 23)) (fun K => by kernel_rfl) ?_
    refine ⟨w64 (by omega) (by omega), ?_⟩
    refine awp_block ?_
    refine awp_loop (ι := Nat) (fun n => ⟨[(0, .d (du u)), (1, .d (du v)), (5, .d (.int .i64 ((n : Int) - 1)))], [], 0⟩) (fun n => n ≤ u.length ∧ ∃ X, x = val (u.take n) + X ∧ y = val (v.take n) + X) (fun n => n) u.length [] ⟨Nat.le_refl _, 0, by simp [vx], by simp [vy, hlen]⟩ ?_ ?_
    · constructor <;> simp [hl, envOk, memOk, conv, St.get]
    intro n ⟨hn, X, hX, hY⟩
    refine awp_seq_k fun K2 hK2 => ?_
    refine awp_sx prog_ok hP hnt [] [] [] [0, 1, 5, 26] (by kernel_rfl) (G := fun K => K (St.mk [(0, V.d (du u)), (1, V.d (du v)), (5, V.d (D.int IntKind.i64 ((↑n : Int) - (1 : Int)))), (26, V.d (D.bool (decide ((↑n : Int) - (1 : Int) ≥ (0 : Int)))))] [] 2)) (fun K => by kernel_rfl) ?_
    refine awp_cond rfl (fun hb => awp_skip (hK2 _ ?_)) (fun hb => awp_exit ⟨(), [], ?_, ?_⟩)
    · simp at hb
      obtain ⟨p, hp⟩ := get_ex (l := u) (i := n - 1) (by omega)
      obtain ⟨q, hq⟩ := get_ex (l := v) (i := n - 1) (by omega)
      have e1 := val_take_succ hp
      have e2 := val_take_succ hq
      rw [show n - 1 + 1 = n by omega] at e1 e2
      have hi : (n : Int) - 1 = ((n - 1 : Nat) : Int) := by omega
      rw [hi]
      refine awp_seq_k fun K3 hK3 => ?_
      refine awp_block ?_
      refine awp_seq_k fun K4 hK4 => ?_
      refine awp_sx prog_ok hP hnt [] [] [some [.int .u32 p], some [.int .u32 q]] [0, 1, 5, 37] (by kernel_rfl) (G := fun K => ((0 : Int) ≤ (↑(n - 1) : Int) ∧ (↑(n - 1) : Int) < (↑u.length : Int) ∧ ((↑(n - 1) : Int).toNat + 1) * 1 ≤ (u32s u).length) ∧ (List.drop ((↑(n - 1) : Int).toNat * 1) (u32s u))[0]? = some (D.int IntKind.u32 (↑p : Int)) ∧ ((0 : Int) ≤ (↑(n - 1) : Int) ∧ (↑(n - 1) : Int) < (↑v.length : Int) ∧ ((↑(n - 1) : Int).toNat + 1) * 1 ≤ (u32s v).length) ∧ (List.drop ((↑(n - 1) : Int).toNat * 1) (u32s v))[0]? = some (D.int IntKind.u32 (↑q : Int)) ∧ K (St.mk [(0, V.d (du u)), (1, V.d (du v)), (5, V.d (D.int IntKind.i64 (↑(n - 1) : Int))), (37, V.d (D.bool (decide ((↑p : Int) > (↑q : Int)))))] [] 11)) (fun K => by kernel_rfl) ?_
      refine ⟨⟨by omega, by omega, by simp; omega⟩, by simp [hp], ⟨by omega, by omega, by simp; omega⟩, by simp [hq], ?_⟩
      refine awp_cond rfl (fun hg => ?_) (fun hg => awp_skip (hK4 _ ?_))
      · refine awp_sx prog_ok hP hnt [] [] [] [4] (by kernel_rfl) (G := fun K => K (St.mk [(4, V.d (D.int IntKind.i64 (1 : Int)))] [] 12)) (fun K => by kernel_rfl) ?_
        refine awp_ret ⟨.inl rfl, retD ?_⟩
        simp at hg
        have := top_lt (X := X) dy hq hp hg
        rw [show n - 1 + 1 = n by omega, ← hX, ← hY] at this
        rw [cmpI_gt this]; rfl
      refine awp_sx prog_ok hP hnt [] [] [some [.int .u32 p], some [.int .u32 q]] [0, 1, 5, 46] (by kernel_rfl) (G := fun K => ((0 : Int) ≤ (↑(n - 1) : Int) ∧ (↑(n - 1) : Int) < (↑u.length : Int) ∧ ((↑(n - 1) : Int).toNat + 1) * 1 ≤ (u32s u).length) ∧ (List.drop ((↑(n - 1) : Int).toNat * 1) (u32s u))[0]? = some (D.int IntKind.u32 (↑p : Int)) ∧ ((0 : Int) ≤ (↑(n - 1) : Int) ∧ (↑(n - 1) : Int) < (↑v.length : Int) ∧ ((↑(n - 1) : Int).toNat + 1) * 1 ≤ (u32s v).length) ∧ (List.drop ((↑(n - 1) : Int).toNat * 1) (u32s v))[0]? = some (D.int IntKind.u32 (↑q : Int)) ∧ K (St.mk [(0, V.d (du u)), (1, V.d (du v)), (5, V.d (D.int IntKind.i64 (↑(n - 1) : Int))), (46, V.d (D.bool (decide ((↑p : Int) < (↑q : Int)))))] [] 20)) (fun K => by kernel_rfl) ?_
      refine ⟨⟨by omega, by omega, by simp; omega⟩, by simp [hp], ⟨by omega, by omega, by simp; omega⟩, by simp [hq], ?_⟩
      refine awp_cond rfl (fun hh => ?_) (fun hh => awp_skip (hK3 _ ?_))
      · refine awp_sx prog_ok hP hnt [] [] [] [4] (by kernel_rfl) (G := fun K => K (St.mk [(4, V.d (D.int IntKind.i64 (-1 : Int)))] [] 21)) (fun K => by kernel_rfl) ?_
        refine awp_ret ⟨.inl rfl, retD ?_⟩
        simp at hh
        have := top_lt (X := X) dx hp hq hh
        rw [show n - 1 + 1 = n by omega, ← hX, ← hY] at this
        rw [cmpI_lt this]; rfl
      refine awp_x prog_ok hP hnt [(28, .int .i64 (((n - 1 : Nat) : Int) - 1))] [] [] [0, 1, 5] (by kernel_rfl) (G := fun K => IntKind.i64.wrap ((↑(n - 1) : Int) - (1 : Int)) = (↑(n - 1) : Int) - (1 : Int) ∧ K (St.mk [(0, V.d (du u)), (1, V.d (du v)), (5, V.d (D.int IntKind.i64 ((↑(n - 1) : Int) - (1 : Int))))] [] 23)) (fun K => by kernel_rfl) ?_
      simp at hg hh
      refine ⟨w64 (by omega) (by omega), n - 1, [], ⟨⟨by omega, 4294967296 ^ (n - 1) * p + X, ?_, ?_⟩, by omega⟩, ?_⟩
      · rw [hX, e1]; omega
      · rw [hY, e2, show p = q by omega]; omega
      · constructor <;> simp [hl, envOk, memOk, conv, St.get]
    · simp at hb
      have : n = 0 := by omega
      subst this
      rw [hX, hY]; simp [val]
    · constructor <;> simp [hl, envOk, memOk, conv, St.get]
  · intro _ hxy
    refine awp_sx prog_ok hP hnt [] [] [] [4] (by kernel_rfl) (G := fun K => K (St.mk [(4, V.d (D.int IntKind.i64 (0 : Int)))] [] 1)) (fun K => by kernel_rfl) ?_
    refine awp_ret ⟨.inl rfl, retD ?_⟩
    rw [hxy, cmpI_eq]; rfl
end Go.Abs

set_option linter.unusedVariables false
set_option linter.unusedSimpArgs false
namespace Go.Abs
open Go Go.Proofs
set_option maxRecDepth 100000


theorem addc_fn (x y c s d : Nat) (hx : x < 4294967296) (hy : y < 4294967296) (hc : c < 4294967296) (hs : s = (x + y + c) % 4294967296) (hd : d = (x + y + c) / 4294967296) :
    Fn Try.prog 227 [.d (.int .u32 x), .d (.int .u32 y), .ptr 1 0] [(1, ⟨[.int .u32 c], true⟩)] (.d (.int .u32 s)) [(1, ⟨[.int .u32 d], true⟩)] := by
  refine fn_intro prog_ok (nx := 2) (res := [.tmp 5]) Try.func227 rfl (by decide) (Nat.le_of_ble_eq_true rfl) rfl (by simp) (by simp [V.refsL, V.refs]) ?_
  intro C hP hnt hl
  replace hnt : C.nt = 17 := hnt
  refine awp_sx prog_ok hP hnt [] [] [] [0, 1, 2] (by kernel_rfl) (G := fun K => K (St.mk [(0, V.d (D.int IntKind.u32 (↑x : Int))), (1, V.d (D.int IntKind.u32 (↑y : Int))), (2, V.ptr 1 0)] [(1, some (Blk.mk [D.int IntKind.u32 (↑c : Int)] true))] 3)) (fun K => by kernel_rfl) ?_
  refine awp_sx prog_ok hP hnt [] [.val (.tup [.d (.int .u32 s), .d (.int .u32 d)])] [none] [2, 6, 7] (by kernel_rfl) (G := fun K => Fn Try.prog 228 [V.d (D.int IntKind.u32 (↑x : Int)), V.d (D.int IntKind.u32 (↑y : Int)), V.d (D.int IntKind.u32 (↑c : Int))] [] (V.tup [V.d (D.int IntKind.u32 (↑s : Int)), V.d (D.int IntKind.u32 (↑d : Int))]) [] ∧ K (St.mk [(2, V.ptr 1 0), (6, V.d (D.int IntKind.u32 (↑s : Int))), (7, V.d (D.int IntKind.u32 (↑d : Int)))] [(1, some (Blk.mk [D.int IntKind.u32 (↑c : Int)] true))] 12)) (fun K => by kernel_rfl) ?_
  refine ⟨by subst hs hd; exact add32_fn x y c hx hy hc, ?_⟩
  refine awp_sx prog_ok hP hnt [] [] [] [6] (by kernel_rfl) (G := fun K => 0 + [D.int IntKind.u32 (↑d : Int)].length ≤ [D.int IntKind.u32 (↑c : Int)].length ∧ K (St.mk [(6, V.d (D.int IntKind.u32 (↑s : Int)))] [(1, some (Blk.mk [D.int IntKind.u32 (↑d : Int)] true))] 14)) (fun K => by kernel_rfl) ?_
  refine ⟨by simp, ?_⟩
  refine awp_sx prog_ok hP hnt [] [] [] [5] (by kernel_rfl) (G := fun K => K (St.mk [(5, V.d (D.int IntKind.u32 (↑s : Int)))] [(1, some (Blk.mk [D.int IntKind.u32 (↑d : Int)] true))] 16)) (fun K => by kernel_rfl) ?_
  refine awp_ret ⟨.inl rfl, .inl ⟨rfl, ?_⟩⟩
  exact ⟨rfl, trivial⟩

theorem add_fn (a b : List Nat) (ha : a.length ≤ 2 ^ 40) (hb : b.length ≤ 2 ^ 40) (da : Dg a) (db : Dg b) : Fn Try.prog 180 [.d (du a), .d (du b)] [] (.d (du (dig (val a + val b)))) [] := by
  refine fn0 (nt := 69) (res := [.tmp 4]) Try.func180 rfl (by decide) rfl rfl rfl rfl ?_
  intro C hP hnt hl
  refine awp_sx prog_ok hP hnt [] [] [] [0, 1] (by kernel_rfl) (G := fun K => K (St.mk [(0, V.d (du a)), (1, V.d (du b))] [] 1)) (fun K => by kernel_rfl) ?_
  refine awp_sx prog_ok hP hnt [] [.val (.d (du (dig (val a)))), .val (.d (du (dig (val b))))] [] [0, 1] (by kernel_rfl) (G := fun K => Fn Try.prog 212 [V.d (du a)] [] (V.d (du (dig (val a)))) [] ∧ Fn Try.prog 212 [V.d (du b)] [] (V.d (du (dig (val b)))) [] ∧ K (St.mk [(0, V.d (du (dig (val a)))), (1, V.d (du (dig (val b))))] [] 7)) (fun K => by kernel_rfl) ?_
  refine ⟨trim_fn a (by omega) da, trim_fn b (by omega) db, ?_⟩
  have la := dig_le da
  have lb := dig_le db
  generalize val a = x at *
  generalize val b = y at *
  refine awp_cut (ι := List Nat × List Nat) (fun p => ⟨[(0, .d (du p.1)), (1, .d (du p.2))], [], 0⟩) (fun p => p.2.length ≤ p.1.length ∧ p.1.length ≤ 2 ^ 40 ∧ Dg p.1 ∧ Dg p.2 ∧ val p.1 + val p.2 = x + y) ?_ ?_
  · refine awp_sx prog_ok hP hnt [] [] [] [0, 1, 19] (by kernel_rfl) (G := fun K => K (St.mk [(0, V.d (du (dig x))), (1, V.d (du (dig y))), (19, V.d (D.bool (decide ((↑(dig x).length : Int) < (↑(dig y).length : Int)))))] [] 12)) (fun K => by kernel_rfl) ?_
    refine awp_cond rfl (fun h => ?_) (fun h => awp_skip ?_)
    · refine awp_x prog_ok hP hnt [] [] [] [0, 1] (by kernel_rfl) (G := fun K => K (St.mk [(0, V.d (du (dig y))), (1, V.d (du (dig x)))] [] 16)) (fun K => by kernel_rfl) ?_
      simp at h
      refine ⟨(dig y, dig x), [], ⟨by simp; omega, by simp; omega, dig_lt _, dig_lt _, by simp [val_dig, Nat.add_comm]⟩, ?_⟩
      constructor <;> simp [hl, envOk, memOk, conv, St.get]
    · simp at h
      refine ⟨(dig x, dig y), [], ⟨by simp; omega, by simp; omega, dig_lt _, dig_lt _, by simp [val_dig]⟩, ?_⟩
      constructor <;> simp [hl, envOk, memOk, conv, St.get]
  intro ⟨u, v⟩ ⟨hlen, hul, du', dv', hval⟩
  dsimp only at hlen hul du' dv' hval
  refine awp_sx prog_ok hP hnt [(24, .int .i64 (u.length + 1 : Nat))] [] [] [0, 1, 5] (by kernel_rfl) (G := fun K => IntKind.i64.wrap ((↑u.length : Int) + (1 : Int)) = (↑(u.length + 1) : Int) ∧ ((↑(u.length + 1) : Int) = (↑(u.length + 1) : Int) ∧ (0 : Int) ≤ (↑(u.length + 1) : Int) ∧ (↑(u.length + 1) : Int) * (↑4 : Int) ≤ (2 : Int) ^ 47) ∧ K (St.mk [(0, V.d (du u)), (1, V.d (du v)), (5, V.own 3 0 (↑(u.length + 1) : Int).toNat 1)] [(3, some (Blk.mk (zeros (↑(u.length + 1) : Int).toNat (TI.mk (Kind.int IntKind.u32) 1 4 [D.int IntKind.u32 (0 : Int)]).zero) true))] 5)) (fun K => by kernel_rfl) ?_
  refine ⟨by rw [w64] <;> omega, by omega, ?_⟩
  refine awp_sx prog_ok hP hnt [] [] [] [0, 1, 5, 6] (by kernel_rfl) (G := fun K => 1 ≤ (TI.mk (Kind.int IntKind.u32) 1 4 [D.int IntKind.u32 (0 : Int)]).zero.length ∧ K (St.mk [(0, V.d (du u)), (1, V.d (du v)), (5, V.own 3 0 (↑(u.length + 1) : Int).toNat 1), (6, V.ptr 5 0)] [(3, some (Blk.mk (zeros (↑(u.length + 1) : Int).toNat (TI.mk (Kind.int IntKind.u32) 1 4 [D.int IntKind.u32 (0 : Int)]).zero) true)), (5, some (Blk.mk [D.int IntKind.u32 (0 : Int)] true))] 7)) (fun K => by kernel_rfl) ?_
  refine ⟨by simp, ?_⟩
  refine awp_sx prog_ok hP hnt [] [] [] [0, 1, 5, 6, 7] (by kernel_rfl) (G := fun K => 0 = 0 ∧ K (St.mk [(0, V.d (du u)), (1, V.d (du v)), (5, V.own 3 0 (↑(u.length + 1) : Int).toNat 1), (6, V.ptr 5 0), (7, V.fn 227 [(5, 0)])] [(3, some (Blk.mk (zeros (↑(u.length + 1) : Int).toNat (TI.mk (Kind.int IntKind.u32) 1 4 [D.int IntKind.u32 (0 : Int)]).zero) true)), (5, some (Blk.mk [D.int IntKind.u32 (0 : Int)] true))] 9)) (fun K => by kernel_rfl) ?_
  refine ⟨rfl, ?_⟩
  refine awp_cut (ι := Nat × List Nat) (fun p => ⟨[(0, .d (du u)), (1, .d (du v)), (5, .own 0 0 (u.length + 1) 1), (6, .ptr 1 0), (7, .fn 227 [(1, 0)])], [(0, some ⟨u32s p.2, true⟩), (1, some ⟨[.int .u32 p.1], true⟩)], 2⟩)
    (fun p => p.1 ≤ 1 ∧ p.2.length = u.length + 1 ∧ Dg p.2 ∧ val (p.2.take v.length) + 4294967296 ^ v.length * p.1 = val (u.take v.length) + val v) ?_ ?_
  · refine awp_sx prog_ok hP hnt [] [] [] [0, 1, 5, 6, 7, 27, 28, 29] (by kernel_rfl) (G := fun K => K (St.mk [(0, V.d (du u)), (1, V.d (du v)), (5, V.own 3 0 (↑(u.length + 1) : Int).toNat 1), (6, V.ptr 5 0), (7, V.fn 227 [(5, 0)]), (27, V.d (du v)), (28, V.d (D.int IntKind.i64 (↑v.length : Int))), (29, V.d (D.int IntKind.i64 (0 : Int)))] [(3, some (Blk.mk (zeros (↑(u.length + 1) : Int).toNat (TI.mk (Kind.int IntKind.u32) 1 4 [D.int IntKind.u32 (0 : Int)]).zero) true)), (5, some (Blk.mk [D.int IntKind.u32 (0 : Int)] true))] 12)) (fun K => by kernel_rfl) ?_
    refine awp_block ?_
    refine awp_loop (ι := Nat × Nat × List Nat) (fun p => ⟨[(0, .d (du u)), (1, .d (du v)), (5, .own 0 0 (u.length + 1) 1), (6, .ptr 1 0), (7, .fn 227 [(1, 0)]), (27, .d (du v)), (28, .d (.int .i64 v.length)), (29, .d (.int .i64 p.1))], [(0, some ⟨u32s p.2.2, true⟩), (1, some ⟨[.int .u32 p.2.1], true⟩)], 2⟩)
      (fun p => p.1 ≤ v.length ∧ p.2.1 ≤ 1 ∧ p.2.2.length = u.length + 1 ∧ Dg p.2.2 ∧ val (p.2.2.take p.1) + 4294967296 ^ p.1 * p.2.1 = val (u.take p.1) + val (v.take p.1)) (fun p => v.length - p.1) (0, 0, List.replicate (u.length + 1) 0) [(0, 3), (1, 5)] ⟨by simp, by simp, by simp, dg_zeros _, by simp [val]⟩ ?_ ?_
    · constructor <;> simp [hl, envOk, memOk, conv, St.get, St.blk, zeros_u32]
    intro ⟨i, c, o⟩ ⟨hi, hc, ho, hdo, hv⟩
    dsimp only at hi hc ho hdo hv
    refine awp_sx prog_ok hP hnt [] [] [] [0, 1, 5, 6, 7, 27, 28, 29, 30] (by kernel_rfl) (G := fun K => K (St.mk [(0, V.d (du u)), (1, V.d (du v)), (5, V.own 0 0 (u.length + 1) 1), (6, V.ptr 1 0), (7, V.fn 227 [(1, 0)]), (27, V.d (du v)), (28, V.d (D.int IntKind.i64 (↑v.length : Int))), (29, V.d (D.int IntKind.i64 (↑i : Int))), (30, V.d (D.bool (decide ((↑i : Int) < (↑v.length : Int)))))] [(0, some (Blk.mk (u32s (c, o).snd) true)), (1, some (Blk.mk [D.int IntKind.u32 (↑(c, o).fst : Int)] true))] 3)) (fun K => by kernel_rfl) ?_
    refine awp_seq_k fun K hK => ?_
    refine awp_cond rfl (fun h => awp_skip (hK _ ?_)) (fun h => awp_exit ⟨(c, o), [(0, 0), (1, 1)], ?_, ?_⟩)
    · simp at h
      obtain ⟨p, hp⟩ := get_ex (l := u) (i := i) (by omega)
      obtain ⟨q, hq⟩ := get_ex (l := v) (i := i) (by omega)
      have hp' := dg_get du' hp
      have hq' := dg_get dv' hq
      refine awp_seq_k fun K2 hK2 => ?_
      refine awp_block ?_
      refine awp_sx prog_ok hP hnt [] [] [some [.int .u32 q]] [0, 1, 5, 6, 7, 8, 9, 27, 28, 29] (by kernel_rfl) (G := fun K => ((0 : Int) ≤ (↑i : Int) ∧ (↑i : Int) < (↑v.length : Int) ∧ ((↑i : Int).toNat + 1) * 1 ≤ (u32s v).length) ∧ (List.drop ((↑i : Int).toNat * 1) (u32s v))[0]? = some (D.int IntKind.u32 (↑q : Int)) ∧ K (St.mk [(0, V.d (du u)), (1, V.d (du v)), (5, V.own 0 0 (u.length + 1) 1), (6, V.ptr 1 0), (7, V.fn 227 [(1, 0)]), (27, V.d (du v)), (28, V.d (D.int IntKind.i64 (↑v.length : Int))), (29, V.d (D.int IntKind.i64 (↑i : Int))), (8, V.d (D.int IntKind.i64 (↑i : Int))), (9, V.d (D.int IntKind.u32 (↑q : Int)))] [(0, some (Blk.mk (u32s o) true)), (1, some (Blk.mk [D.int IntKind.u32 (↑c : Int)] true))] 8)) (fun K => by kernel_rfl) ?_
      refine ⟨⟨by omega, by omega, by simp; omega⟩, by simp [hq], ?_⟩
      obtain ⟨s, hs⟩ : ∃ s, s = (p + q + c) % 4294967296 := ⟨_, rfl⟩
      obtain ⟨d, hd⟩ : ∃ d, d = (p + q + c) / 4294967296 := ⟨_, rfl⟩
      have hst := carry_step (by omega) hp hq hv
      rw [← hs, ← hd] at hst
      refine awp_x prog_ok hP hnt [] [.upd (.d (.int .u32 s)) [[.int .u32 d]]] [some [.int .u32 p]] [0, 1, 5, 6, 7, 27, 28, 29] (by kernel_rfl) (G := fun K => ((0 : Int) ≤ (↑i : Int) ∧ (↑i : Int) < (↑u.length : Int) ∧ ((↑i : Int).toNat + 1) * 1 ≤ (u32s u).length) ∧ (List.drop ((↑i : Int).toNat * 1) (u32s u))[0]? = some (D.int IntKind.u32 (↑p : Int)) ∧ (Blk.mk [D.int IntKind.u32 (↑c : Int)] true).live = true ∧ Fn Try.prog 227 [V.d (D.int IntKind.u32 (↑p : Int)), V.d (D.int IntKind.u32 (↑q : Int)), V.ptr 1 0] [(1, Blk.mk [D.int IntKind.u32 (↑c : Int)] true)] (V.d (D.int IntKind.u32 (↑s : Int))) [(1, Blk.mk [D.int IntKind.u32 (↑d : Int)] true)] ∧ ((0 : Int) ≤ (↑i : Int) ∧ (↑i : Int) < (↑(u.length + 1) : Int)) ∧ 0 + (↑i : Int).toNat * 1 + [D.int IntKind.u32 (↑s : Int)].length ≤ (u32s o).length ∧ K (St.mk [(0, V.d (du u)), (1, V.d (du v)), (5, V.own 0 0 (u.length + 1) 1), (6, V.ptr 1 0), (7, V.fn 227 [(1, 0)]), (27, V.d (du v)), (28, V.d (D.int IntKind.i64 (↑v.length : Int))), (29, V.d (D.int IntKind.i64 (↑i : Int)))] [(0, some (Blk.mk (setCells (u32s o) (0 + (↑i : Int).toNat * 1) [D.int IntKind.u32 (↑s : Int)]) true)), (1, some (Blk.mk [D.int IntKind.u32 (↑d : Int)] true))] 19)) (fun K => by kernel_rfl) ?_
      refine ⟨⟨by omega, by omega, by simp; omega⟩, by simp [hp], rfl, addc_fn p q c _ _ hp' hq' (by omega) hs hd, ⟨by omega, by omega⟩, by simp [ho]; omega, hK2 _ ?_⟩
      refine awp_x prog_ok hP hnt [(44, .int .i64 (i + 1 : Nat))] [] [] [0, 1, 5, 6, 7, 27, 28, 29] (by kernel_rfl) (G := fun K => IntKind.i64.wrap ((↑i : Int) + (1 : Int)) = (↑(i + 1) : Int) ∧ K (St.mk [(0, V.d (du u)), (1, V.d (du v)), (5, V.own 0 0 (u.length + 1) 1), (6, V.ptr 1 0), (7, V.fn 227 [(1, 0)]), (27, V.d (du v)), (28, V.d (D.int IntKind.i64 (↑v.length : Int))), (29, V.d (D.int IntKind.i64 (↑(i + 1) : Int)))] [(0, some (Blk.mk (setCells (u32s o) (0 + (↑i : Int).toNat * 1) [D.int IntKind.u32 (↑s : Int)]) true)), (1, some (Blk.mk [D.int IntKind.u32 (↑d : Int)] true))] 21)) (fun K => by kernel_rfl) ?_
      refine ⟨by rw [w64] <;> omega, (i + 1, d, o.set i s), [(0, 0), (1, 1)], ⟨⟨by simp; omega, by simp; omega, by simp [ho], dg_set hdo (by omega), hst⟩, by simp; omega⟩, ?_⟩
      constructor <;> simp [hl, envOk, memOk, conv, St.get, St.blk, setCells_u32, u32s_set]
    · simp at h
      have : i = v.length := by omega
      subst this
      refine ⟨hc, ho, hdo, ?_⟩
      simpa using hv
    · constructor <;> simp [hl, envOk, memOk, conv, St.get, St.blk]
  intro ⟨c, o⟩ ⟨hc, ho, hdo, hv⟩
  dsimp only at hc ho hdo hv
  refine awp_cut (ι := Nat × List Nat) (fun p => ⟨[(0, .d (du u)), (5, .own 0 0 (u.length + 1) 1), (6, .ptr 1 0)], [(0, some ⟨u32s p.2, true⟩), (1, some ⟨[.int .u32 p.1], true⟩)], 2⟩)
    (fun p => p.1 ≤ 1 ∧ p.2.length = u.length + 1 ∧ Dg p.2 ∧ val (p.2.take u.length) + 4294967296 ^ u.length * p.1 = val u + val v) ?_ ?_
  · refine awp_sx prog_ok hP hnt [] [] [] [0, 5, 6, 7, 10] (by kernel_rfl) (G := fun K => K (St.mk [(0, V.d (du u)), (5, V.own 0 0 (u.length + 1) 1), (6, V.ptr 1 0), (7, V.fn 227 [(1, 0)]), (10, V.d (D.int IntKind.i64 (↑v.length : Int)))] [(0, some (Blk.mk (u32s o) true)), (1, some (Blk.mk [D.int IntKind.u32 (↑c : Int)] true))] 5)) (fun K => by kernel_rfl) ?_
    refine awp_block ?_
    refine awp_loop (ι := Nat × Nat × List Nat) (fun p => ⟨[(0, .d (du u)), (5, .own 0 0 (u.length + 1) 1), (6, .ptr 1 0), (7, .fn 227 [(1, 0)]), (10, .d (.int .i64 p.1))], [(0, some ⟨u32s p.2.2, true⟩), (1, some ⟨[.int .u32 p.2.1], true⟩)], 2⟩)
      (fun p => p.1 ≤ u.length ∧ p.2.1 ≤ 1 ∧ p.2.2.length = u.length + 1 ∧ Dg p.2.2 ∧ val (p.2.2.take p.1) + 4294967296 ^ p.1 * p.2.1 = val (u.take p.1) + val v) (fun p => u.length - p.1) (v.length, c, o) [(0, 0), (1, 1)] ⟨hlen, hc, ho, hdo, hv⟩ ?_ ?_
    · constructor <;> simp [hl, envOk, memOk, conv, St.get, St.blk, zeros_u32]
    intro ⟨i, c, o⟩ ⟨hi, hc, ho, hdo, hv⟩
    dsimp only at hi hc ho hdo hv
    refine awp_seq_k fun K hK => ?_
    refine awp_sx prog_ok hP hnt [] [] [] [0, 5, 6, 7, 10, 50] (by kernel_rfl) (G := fun K => K (St.mk [(0, V.d (du u)), (5, V.own 0 0 (u.length + 1) 1), (6, V.ptr 1 0), (7, V.fn 227 [(1, 0)]), (10, V.d (D.int IntKind.i64 (↑i : Int))), (50, V.d (D.bool (decide ((↑i : Int) < (↑u.length : Int)))))] [(0, some (Blk.mk (u32s (c, o).snd) true)), (1, some (Blk.mk [D.int IntKind.u32 (↑(c, o).fst : Int)] true))] 6)) (fun K => by kernel_rfl) ?_
    refine awp_cond rfl (fun h => awp_skip (hK _ ?_)) (fun h => awp_exit ⟨(c, o), [(0, 0), (1, 1)], ?_, ?_⟩)
    · simp at h
      obtain ⟨p, hp⟩ := get_ex (l := u) (i := i) (by omega)
      have hp' := dg_get du' hp
      refine awp_seq_k fun K2 hK2 => ?_
      refine awp_block ?_
      obtain ⟨s, hs⟩ : ∃ s, s = (p + 0 + c) % 4294967296 := ⟨_, rfl⟩
      obtain ⟨d, hd⟩ : ∃ d, d = (p + 0 + c) / 4294967296 := ⟨_, rfl⟩
      have hst := carry_step1 (by omega) hp hv
      rw [← hs, ← hd] at hst
      refine awp_x prog_ok hP hnt [] [.upd (.d (.int .u32 s)) [[.int .u32 d]]] [some [.int .u32 p]] [0, 5, 6, 7, 10] (by kernel_rfl) (G := fun K => ((0 : Int) ≤ (↑i : Int) ∧ (↑i : Int) < (↑u.length : Int) ∧ ((↑i : Int).toNat + 1) * 1 ≤ (u32s u).length) ∧ (List.drop ((↑i : Int).toNat * 1) (u32s u))[0]? = some (D.int IntKind.u32 (↑p : Int)) ∧ (Blk.mk [D.int IntKind.u32 (↑c : Int)] true).live = true ∧ Fn Try.prog 227 [V.d (D.int IntKind.u32 (↑p : Int)), V.d (D.int IntKind.u32 (0 : Int)), V.ptr 1 0] [(1, Blk.mk [D.int IntKind.u32 (↑c : Int)] true)] (V.d (D.int IntKind.u32 (↑s : Int))) [(1, Blk.mk [D.int IntKind.u32 (↑d : Int)] true)] ∧ ((0 : Int) ≤ (↑i : Int) ∧ (↑i : Int) < (↑(u.length + 1) : Int)) ∧ 0 + (↑i : Int).toNat * 1 + [D.int IntKind.u32 (↑s : Int)].length ≤ (u32s o).length ∧ K (St.mk [(0, V.d (du u)), (5, V.own 0 0 (u.length + 1) 1), (6, V.ptr 1 0), (7, V.fn 227 [(1, 0)]), (10, V.d (D.int IntKind.i64 (↑i : Int)))] [(0, some (Blk.mk (setCells (u32s o) (0 + (↑i : Int).toNat * 1) [D.int IntKind.u32 (↑s : Int)]) true)), (1, some (Blk.mk [D.int IntKind.u32 (↑d : Int)] true))] 16)) (fun K => by kernel_rfl) ?_
      refine ⟨⟨by omega, by omega, by simp; omega⟩, by simp [hp], rfl, addc_fn p 0 c _ _ hp' (by omega) (by omega) hs hd, ⟨by omega, by omega⟩, by simp [ho]; omega, hK2 _ ?_⟩
      refine awp_x prog_ok hP hnt [(52, .int .i64 (i + 1 : Nat))] [] [] [0, 5, 6, 7, 10] (by kernel_rfl) (G := fun K => IntKind.i64.wrap ((↑i : Int) + (1 : Int)) = (↑(i + 1) : Int) ∧ K (St.mk [(0, V.d (du u)), (5, V.own 0 0 (u.length + 1) 1), (6, V.ptr 1 0), (7, V.fn 227 [(1, 0)]), (10, V.d (D.int IntKind.i64 (↑(i + 1) : Int)))] [(0, some (Blk.mk (setCells (u32s o) (0 + (↑i : Int).toNat * 1) [D.int IntKind.u32 (↑s : Int)]) true)), (1, some (Blk.mk [D.int IntKind.u32 (↑d : Int)] true))] 19)) (fun K => by kernel_rfl) ?_
      refine ⟨by rw [w64] <;> omega, (i + 1, d, o.set i s), [(0, 0), (1, 1)], ⟨⟨by simp; omega, by simp; omega, by simp [ho], dg_set hdo (by omega), hst⟩, by simp; omega⟩, ?_⟩
      constructor <;> simp [hl, envOk, memOk, conv, St.get, St.blk, setCells_u32, u32s_set]
    · simp at h
      have : i = u.length := by omega
      subst this
      refine ⟨hc, ho, hdo, ?_⟩
      simpa using hv
    · constructor <;> simp [hl, envOk, memOk, conv, St.get, St.blk]
  intro ⟨c, o⟩ ⟨hc, ho, hdo, hv⟩
  dsimp only at hc ho hdo hv
  refine awp_sx prog_ok hP hnt [] [] [some [.int .u32 c]] [5] (by kernel_rfl) (G := fun K => [D.int IntKind.u32 (↑c : Int)][0]? = some (D.int IntKind.u32 (↑c : Int)) ∧ ((0 : Int) ≤ (↑u.length : Int) ∧ (↑u.length : Int) < (↑(u.length + 1) : Int)) ∧ 0 + (↑u.length : Int).toNat * 1 + [D.int IntKind.u32 (↑c : Int)].length ≤ (u32s o).length ∧ K (St.mk [(5, V.own 0 0 (u.length + 1) 1)] [(0, some (Blk.mk (setCells (u32s o) (0 + (↑u.length : Int).toNat * 1) [D.int IntKind.u32 (↑c : Int)]) true)), (1, some (Blk.mk [D.int IntKind.u32 (↑c : Int)] true))] 8)) (fun K => by kernel_rfl) ?_
  refine ⟨rfl, ⟨by omega, by omega⟩, by simp [ho], ?_⟩
  have hfin : val (o.set u.length c) = x + y := by
    have := val_set (l := o) (i := u.length) (s := c) (by omega)
    rw [List.take_of_length_le (by simp [ho])] at this
    rw [this, hv, hval]
  have hd2 : Dg (o.set u.length c) := dg_set hdo (by omega)
  have ho2 : (o.set u.length c).length = u.length + 1 := by simp [ho]
  have ht := trim_fn (o.set u.length c) (by omega) hd2
  rw [hfin] at ht
  refine awp_sx prog_ok hP hnt [] [.val (.d (du (dig (x + y))))] [] [4] (by kernel_rfl) (G := fun K => Fn Try.prog 212 [V.d (D.lst (u.length + 1) (List.take ((u.length + 1) * 1) (List.drop 0 (setCells (u32s o) (0 + (↑u.length : Int).toNat * 1) [D.int IntKind.u32 (↑c : Int)]))))] [] (V.d (du (dig (x + y)))) [] ∧ K (St.mk [(4, V.d (du (dig (x + y))))] [(0, some (Blk.mk (setCells (u32s o) (0 + (↑u.length : Int).toNat * 1) [D.int IntKind.u32 (↑c : Int)]) false)), (1, some (Blk.mk [D.int IntKind.u32 (↑c : Int)] true))] 11)) (fun K => by kernel_rfl) ?_
  refine ⟨by simp only [Nat.zero_add, Int.toNat_natCast, Nat.mul_one, setCells_u32, own_du ho2]; exact ht, awp_ret ⟨.inl rfl, retD rfl⟩⟩
end Go.Abs

set_option linter.unusedVariables false
set_option linter.unusedSimpArgs false
namespace Go.Abs
open Go Go.Proofs
set_option maxRecDepth 100000


theorem sub_fn (a b : List Nat) (ha : a.length ≤ 2 ^ 40) (hb : b.length ≤ 2 ^ 40) (da : Dg a) (db : Dg b) : Fn Try.prog 181 [.d (du a), .d (du b)] [] (.tup [.d (du (dig (val a - val b))), .d (.bool (decide (val b ≤ val a)))]) [] := by
  refine fn0 (nt := 50) (res := [.tmp 4, .tmp 5]) Try.func181 rfl (by decide) rfl rfl rfl rfl ?_
  intro C hP hnt hl
  refine awp_sx prog_ok hP hnt [] [] [] [0, 1] (by kernel_rfl) (G := fun K => K (St.mk [(0, V.d (du a)), (1, V.d (du b))] [] 2)) (fun K => by kernel_rfl) ?_
  refine awp_seq_k fun K hK => ?_
  refine awp_sx prog_ok hP hnt [] [.val (.d (.int .i64 (cmpI (val a) (val b))))] [] [0, 1, 14] (by kernel_rfl) (G := fun K => Fn Try.prog 153 [V.d (du a), V.d (du b)] [] (V.d (D.int IntKind.i64 (cmpI (val a) (val b)))) [] ∧ K (St.mk [(0, V.d (du a)), (1, V.d (du b)), (14, V.d (D.bool (decide (cmpI (val a) (val b) < (0 : Int)))))] [] 6)) (fun K => by kernel_rfl) ?_
  refine ⟨cmp_fn a b (by omega) (by omega) da db, ?_⟩
  refine awp_cond rfl (fun h => ?_) (fun h => awp_skip (hK _ ?_))
  · refine awp_sx prog_ok hP hnt [] [] [] [4, 5] (by kernel_rfl) (G := fun K => K (St.mk [(4, V.nil), (5, V.d (D.bool false))] [] 8)) (fun K => by kernel_rfl) ?_
    refine awp_ret ⟨.inl rfl, ?_⟩
    have hlt : val a < val b := by
      simp [cmpI] at h
      split at h <;> omega
    rw [Nat.sub_eq_zero_of_le (by omega), dig_zero, show decide (val b ≤ val a) = false by simp; omega]
    exact ret2Nil rfl rfl
  have hle : val b ≤ val a := by
    simp [cmpI] at h
    split at h <;> omega
  clear h
  refine awp_sx prog_ok hP hnt [] [.val (.d (du (dig (val a)))), .val (.d (du (dig (val b))))] [] [0, 1] (by kernel_rfl) (G := fun K => Fn Try.prog 212 [V.d (du a)] [] (V.d (du (dig (val a)))) [] ∧ Fn Try.prog 212 [V.d (du b)] [] (V.d (du (dig (val b)))) [] ∧ K (St.mk [(0, V.d (du (dig (val a)))), (1, V.d (du (dig (val b))))] [] 12)) (fun K => by kernel_rfl) ?_
  refine ⟨trim_fn a (by omega) da, trim_fn b (by omega) db, ?_⟩
  have la := dig_le da
  have lb := dig_le db
  generalize val a = x at *
  generalize val b = y at *
  have dx := dig_lt x
  have dy := dig_lt y
  have hvu : (dig y).length ≤ (dig x).length := dig_len (Nat.lt_of_le_of_lt hle (dig_lt_of_len (Nat.le_refl _)))
  have vx := val_dig x
  have vy := val_dig y
  generalize dig x = u at *
  generalize dig y = v at *
  refine awp_sx prog_ok hP hnt [] [] [] [0, 1, 6] (by kernel_rfl) (G := fun K => ((↑u.length : Int) = (↑u.length : Int) ∧ (0 : Int) ≤ (↑u.length : Int) ∧ (↑u.length : Int) * (↑4 : Int) ≤ (2 : Int) ^ 47) ∧ K (St.mk [(0, V.d (du u)), (1, V.d (du v)), (6, V.own 14 0 (↑u.length : Int).toNat 1)] [(14, some (Blk.mk (zeros (↑u.length : Int).toNat (TI.mk (Kind.int IntKind.u32) 1 4 [D.int IntKind.u32 (0 : Int)]).zero) true))] 16)) (fun K => by kernel_rfl) ?_
  refine ⟨by omega, ?_⟩
  refine awp_sx prog_ok hP hnt [] [] [] [0, 1, 6, 7] (by kernel_rfl) (G := fun K => K (St.mk [(0, V.d (du u)), (1, V.d (du v)), (6, V.own 14 0 (↑u.length : Int).toNat 1), (7, V.d (D.int IntKind.u32 (0 : Int)))] [(14, some (Blk.mk (zeros (↑u.length : Int).toNat (TI.mk (Kind.int IntKind.u32) 1 4 [D.int IntKind.u32 (0 : Int)]).zero) true))] 17)) (fun K => by kernel_rfl) ?_
  refine awp_cut (ι := List Nat) (fun o => ⟨[(6, .own 0 0 u.length 1)], [(0, some ⟨u32s o, true⟩)], 1⟩)
    (fun o => o.length = u.length ∧ Dg o ∧ val o = x - y) ?_ ?_
  · refine awp_sx prog_ok hP hnt [] [] [] [1, 6, 7, 22, 23, 24] (by kernel_rfl) (G := fun K => K (St.mk [(1, V.d (du v)), (6, V.own 14 0 (↑u.length : Int).toNat 1), (7, V.d (D.int IntKind.u32 (0 : Int))), (22, V.d (du u)), (23, V.d (D.int IntKind.i64 (↑u.length : Int))), (24, V.d (D.int IntKind.i64 (0 : Int)))] [(14, some (Blk.mk (zeros (↑u.length : Int).toNat (TI.mk (Kind.int IntKind.u32) 1 4 [D.int IntKind.u32 (0 : Int)]).zero) true))] 20)) (fun K => by kernel_rfl) ?_
    refine awp_block ?_
    refine awp_loop (ι := Nat × Nat × List Nat) (fun p => ⟨[(1, .d (du v)), (6, .own 0 0 u.length 1), (7, .d (.int .u32 p.2.1)), (22, .d (du u)), (23, .d (.int .i64 u.length)), (24, .d (.int .i64 p.1))], [(0, some ⟨u32s p.2.2, true⟩)], 1⟩)
      (fun p => p.1 ≤ u.length ∧ p.2.1 ≤ 1 ∧ p.2.2.length = u.length ∧ Dg p.2.2 ∧ val (p.2.2.take p.1) + val (v.take p.1) = val (u.take p.1) + 4294967296 ^ p.1 * p.2.1) (fun p => u.length - p.1) (0, 0, List.replicate u.length 0) [(0, 14)] ⟨by simp, by simp, by simp, dg_zeros _, by simp [val]⟩ ?_ ?_
    · constructor <;> simp [hl, envOk, memOk, conv, St.get, St.blk, zeros_u32]
    intro ⟨i, c, o⟩ ⟨hi, hc, ho, hdo, hv⟩
    dsimp only at hi hc ho hdo hv
    refine awp_sx prog_ok hP hnt [] [] [] [1, 6, 7, 22, 23, 24, 25] (by kernel_rfl) (G := fun K => K (St.mk [(1, V.d (du v)), (6, V.own 0 0 u.length 1), (7, V.d (D.int IntKind.u32 (↑(c, o).fst : Int))), (22, V.d (du u)), (23, V.d (D.int IntKind.i64 (↑u.length : Int))), (24, V.d (D.int IntKind.i64 (↑i : Int))), (25, V.d (D.bool (decide ((↑i : Int) < (↑u.length : Int)))))] [(0, some (Blk.mk (u32s (c, o).snd) true))] 2)) (fun K => by kernel_rfl) ?_
    refine awp_seq_k fun K hK => ?_
    refine awp_cond rfl (fun h => awp_skip (hK _ ?_)) (fun h => awp_exit ⟨o, [(0, 0)], ?_, ?_⟩)
    · simp at h
      obtain ⟨p, hp⟩ := get_ex (l := u) (i := i) (by omega)
      have hp' := dg_get dx hp
      obtain ⟨q, hq⟩ : ∃ q, v.getD i 0 = q := ⟨_, rfl⟩
      have hq' : q < 4294967296 := by rw [← hq]; exact dg_getD dy i
      obtain ⟨s, hs⟩ : ∃ s, s = (p + 4294967296 + 4294967296 - q - c) % 4294967296 := ⟨_, rfl⟩
      obtain ⟨d, hd⟩ : ∃ d, d = if p < q + c then 1 else 0 := ⟨_, rfl⟩
      have hst := borrow_step (by omega) hp hq hp' hq' hc hs hd hv
      refine awp_seq_k fun K2 hK2 => ?_
      refine awp_block ?_
      refine awp_sx prog_ok hP hnt [] [] [some [.int .u32 p]] [1, 6, 7, 8, 9, 22, 23, 24] (by kernel_rfl) (G := fun K => ((0 : Int) ≤ (↑i : Int) ∧ (↑i : Int) < (↑u.length : Int) ∧ ((↑i : Int).toNat + 1) * 1 ≤ (u32s u).length) ∧ (List.drop ((↑i : Int).toNat * 1) (u32s u))[0]? = some (D.int IntKind.u32 (↑p : Int)) ∧ K (St.mk [(1, V.d (du v)), (6, V.own 0 0 u.length 1), (7, V.d (D.int IntKind.u32 (↑c : Int))), (22, V.d (du u)), (23, V.d (D.int IntKind.i64 (↑u.length : Int))), (24, V.d (D.int IntKind.i64 (↑i : Int))), (8, V.d (D.int IntKind.i64 (↑i : Int))), (9, V.d (D.int IntKind.u32 (↑p : Int)))] [(0, some (Blk.mk (u32s o) true))] 7)) (fun K => by kernel_rfl) ?_
      refine ⟨⟨by omega, by omega, by simp; omega⟩, by simp [hp], ?_⟩
      refine awp_sx prog_ok hP hnt [] [] [] [1, 6, 7, 8, 9, 10, 22, 23, 24] (by kernel_rfl) (G := fun K => K (St.mk [(1, V.d (du v)), (6, V.own 0 0 u.length 1), (7, V.d (D.int IntKind.u32 (↑c : Int))), (22, V.d (du u)), (23, V.d (D.int IntKind.i64 (↑u.length : Int))), (24, V.d (D.int IntKind.i64 (↑i : Int))), (8, V.d (D.int IntKind.i64 (↑i : Int))), (9, V.d (D.int IntKind.u32 (↑p : Int))), (10, V.d (D.int IntKind.u32 (0 : Int)))] [(0, some (Blk.mk (u32s o) true))] 8)) (fun K => by kernel_rfl) ?_
      refine awp_cut (ι := Unit) (fun _ => ⟨[(1, .d (du v)), (6, .own 0 0 u.length 1), (7, .d (.int .u32 c)), (22, .d (du u)), (23, .d (.int .i64 u.length)), (24, .d (.int .i64 i)), (8, .d (.int .i64 i)), (9, .d (.int .u32 p)), (10, .d (.int .u32 q))], [(0, some ⟨u32s o, true⟩)], 1⟩) (fun _ => True) ?_ ?_
      · refine awp_sx prog_ok hP hnt [] [] [] [1, 6, 7, 8, 9, 10, 22, 23, 24, 32] (by kernel_rfl) (G := fun K => K (St.mk [(1, V.d (du v)), (6, V.own 0 0 u.length 1), (7, V.d (D.int IntKind.u32 (↑c : Int))), (22, V.d (du u)), (23, V.d (D.int IntKind.i64 (↑u.length : Int))), (24, V.d (D.int IntKind.i64 (↑i : Int))), (8, V.d (D.int IntKind.i64 (↑i : Int))), (9, V.d (D.int IntKind.u32 (↑p : Int))), (10, V.d (D.int IntKind.u32 (0 : Int))), (32, V.d (D.bool (decide ((↑i : Int) < (↑v.length : Int)))))] [(0, some (Blk.mk (u32s o) true))] 12)) (fun K => by kernel_rfl) ?_
        refine awp_cond rfl (fun h => ?_) (fun h => awp_skip ⟨(), [(0, 0)], trivial, ?_⟩)
        · simp at h
          have hq2 : v[i]? = some q := by
            obtain ⟨q', h'⟩ := get_ex h
            rw [List.getD_eq_getElem?_getD, h'] at hq; rw [h', ← hq]; rfl
          refine awp_x prog_ok hP hnt [] [] [some [.int .u32 q]] [1, 6, 7, 8, 9, 10, 22, 23, 24] (by kernel_rfl) (G := fun K => ((0 : Int) ≤ (↑i : Int) ∧ (↑i : Int) < (↑v.length : Int) ∧ ((↑i : Int).toNat + 1) * 1 ≤ (u32s v).length) ∧ (List.drop ((↑i : Int).toNat * 1) (u32s v))[0]? = some (D.int IntKind.u32 (↑q : Int)) ∧ K (St.mk [(1, V.d (du v)), (6, V.own 0 0 u.length 1), (7, V.d (D.int IntKind.u32 (↑c : Int))), (22, V.d (du u)), (23, V.d (D.int IntKind.i64 (↑u.length : Int))), (24, V.d (D.int IntKind.i64 (↑i : Int))), (8, V.d (D.int IntKind.i64 (↑i : Int))), (9, V.d (D.int IntKind.u32 (↑p : Int))), (10, V.d (D.int IntKind.u32 (↑q : Int)))] [(0, some (Blk.mk (u32s o) true))] 17)) (fun K => by kernel_rfl) ?_
          refine ⟨⟨by omega, by omega, by simp; omega⟩, by simp [hq2], (), [(0, 0)], trivial, ?_⟩
          constructor <;> simp [hl, envOk, memOk, conv, St.get, St.blk]
        · simp at h
          have : q = 0 := by rw [← hq, List.getD_eq_getElem?_getD, List.getElem?_eq_none h]; rfl
          subst this
          constructor <;> simp [hl, envOk, memOk, conv, St.get, St.blk]
      intro _ _
      refine awp_x prog_ok hP hnt [] [.val (.tup [.d (.int .u32 s), .d (.int .u32 d)])] [] [1, 6, 7, 22, 23, 24] (by kernel_rfl) (G := fun K => Fn Try.prog 229 [V.d (D.int IntKind.u32 (↑p : Int)), V.d (D.int IntKind.u32 (↑q : Int)), V.d (D.int IntKind.u32 (↑c : Int))] [] (V.tup [V.d (D.int IntKind.u32 (↑s : Int)), V.d (D.int IntKind.u32 (↑d : Int))]) [] ∧ ((0 : Int) ≤ (↑i : Int) ∧ (↑i : Int) < (↑u.length : Int)) ∧ 0 + (↑i : Int).toNat * 1 + [D.int IntKind.u32 (↑s : Int)].length ≤ (u32s o).length ∧ K (St.mk [(1, V.d (du v)), (6, V.own 0 0 u.length 1), (7, V.d (D.int IntKind.u32 (↑d : Int))), (22, V.d (du u)), (23, V.d (D.int IntKind.i64 (↑u.length : Int))), (24, V.d (D.int IntKind.i64 (↑i : Int)))] [(0, some (Blk.mk (setCells (u32s o) (0 + (↑i : Int).toNat * 1) [D.int IntKind.u32 (↑s : Int)]) true))] 13)) (fun K => by kernel_rfl) ?_
      refine ⟨sub32_fn p q c s d hp' hq' hc hs hd, ⟨by omega, by omega⟩, by simp [ho]; omega, hK2 _ ?_⟩
      refine awp_x prog_ok hP hnt [(47, .int .i64 (i + 1 : Nat))] [] [] [1, 6, 7, 22, 23, 24] (by kernel_rfl) (G := fun K => IntKind.i64.wrap ((↑i : Int) + (1 : Int)) = (↑(i + 1) : Int) ∧ K (St.mk [(1, V.d (du v)), (6, V.own 0 0 u.length 1), (7, V.d (D.int IntKind.u32 (↑d : Int))), (22, V.d (du u)), (23, V.d (D.int IntKind.i64 (↑u.length : Int))), (24, V.d (D.int IntKind.i64 (↑(i + 1) : Int)))] [(0, some (Blk.mk (setCells (u32s o) (0 + (↑i : Int).toNat * 1) [D.int IntKind.u32 (↑s : Int)]) true))] 15)) (fun K => by kernel_rfl) ?_
      refine ⟨by rw [w64] <;> omega, (i + 1, d, o.set i s), [(0, 0)], ⟨⟨by simp; omega, by simp only [hd]; split <;> omega, by simp [ho], dg_set hdo (by omega), hst⟩, by simp; omega⟩, ?_⟩
      constructor <;> simp [hl, envOk, memOk, conv, St.get, St.blk, setCells_u32, u32s_set]
    · simp at h
      have : i = u.length := by omega
      subst this
      rw [List.take_of_length_le (by omega), List.take_of_length_le hvu, List.take_of_length_le (Nat.le_refl _), vx, vy] at hv
      have h1 := val_lt hdo
      rw [ho] at h1
      refine ⟨ho, hdo, ?_⟩
      have : c = 0 := by
        rcases Nat.eq_zero_or_pos c with h0 | h0
        · exact h0
        · have : c = 1 := by omega
          subst this; omega
      subst this; omega
    · constructor <;> simp [hl, envOk, memOk, conv, St.get, St.blk]
  intro o ⟨ho, hdo, hv⟩
  have ht := trim_fn o (by omega) hdo
  rw [hv] at ht
  refine awp_sx prog_ok hP hnt [] [.val (.d (du (dig (x - y))))] [] [4, 5] (by kernel_rfl) (G := fun K => Fn Try.prog 212 [V.d (D.lst u.length (List.take (u.length * 1) (List.drop 0 (u32s o))))] [] (V.d (du (dig (x - y)))) [] ∧ K (St.mk [(4, V.d (du (dig (x - y)))), (5, V.d (D.bool true))] [(0, some (Blk.mk (u32s o) false))] 5)) (fun K => by kernel_rfl) ?_
  refine ⟨by simp only [Nat.zero_add, Int.toNat_natCast, Nat.mul_one, setCells_u32, own_du ho]; exact ht, awp_ret ⟨.inl rfl, ?_⟩⟩
  rw [show decide (y ≤ x) = true by simpa using hle]
  exact ret2 rfl rfl
end Go.Abs

set_option linter.unusedVariables false
set_option linter.unusedSimpArgs false
namespace Go.Abs
open Go Go.Proofs
set_option maxRecDepth 100000


theorem mul_fn (a b : List Nat) (ha : a.length ≤ 2 ^ 40) (hb : b.length ≤ 2 ^ 40) (da : Dg a) (db : Dg b) : Fn Try.prog 186 [.d (du a), .d (du b)] [] (.d (du (dig (val a * val b)))) [] := by
  refine fn0 (nt := 98) (res := [.tmp 4]) Try.func186 rfl (by decide) rfl rfl rfl rfl ?_
  intro C hP hnt hl
  refine awp_sx prog_ok hP hnt [] [] [] [0, 1] (by kernel_rfl) (G := fun K => K (St.mk [(0, V.d (du a)), (1, V.d (du b))] [] 1)) (fun K => by kernel_rfl) ?_
  refine awp_sx prog_ok hP hnt [] [.val (.d (du (dig (val a)))), .val (.d (du (dig (val b))))] [] [0, 1] (by kernel_rfl) (G := fun K => Fn Try.prog 212 [V.d (du a)] [] (V.d (du (dig (val a)))) [] ∧ Fn Try.prog 212 [V.d (du b)] [] (V.d (du (dig (val b)))) [] ∧ K (St.mk [(0, V.d (du (dig (val a)))), (1, V.d (du (dig (val b))))] [] 7)) (fun K => by kernel_rfl) ?_
  refine ⟨trim_fn a (by omega) da, trim_fn b (by omega) db, ?_⟩
  have la := dig_le da
  have lb := dig_le db
  generalize val a = x at *
  generalize val b = y at *
  have dx := dig_lt x
  have dy := dig_lt y
  have vx := val_dig x
  have vy := val_dig y
  have nx := @dig_nil x
  have ny := @dig_nil y
  generalize dig x = u at *
  generalize dig y = v at *
  refine awp_cut (ι := Unit) (fun _ => ⟨[(0, .d (du u)), (1, .d (du v))], [], 0⟩) (fun _ => 0 < u.length ∧ 0 < v.length) ?_ ?_
  · by_cases h0 : u.length = 0
    · refine awp_sx prog_ok hP hnt [(22, .bool true)] [] [] [0, 1, 26] (by kernel_rfl) (G := fun K => ((↑u.length : Int) == (0 : Int)) = true ∧ K (St.mk [(0, V.d (du u)), (1, V.d (du v)), (26, V.d (D.bool true))] [] 15)) (fun K => by kernel_rfl) ?_
      refine ⟨by simp [List.length_eq_zero_iff.1 h0], awp_cond (b := true) rfl (fun _ => ?_) nofun⟩
      refine awp_sx prog_ok hP hnt [] [] [] [4] (by kernel_rfl) (G := fun K => K (St.mk [(4, V.nil)] [] 16)) (fun K => by kernel_rfl) ?_
      refine awp_ret ⟨.inl rfl, ?_⟩
      have : x = 0 := nx.1 (List.length_eq_zero_iff.1 h0)
      rw [this, Nat.zero_mul, dig_zero]
      exact retNil rfl
    refine awp_sx prog_ok hP hnt [(22, .bool false)] [] [] [0, 1, 26] (by kernel_rfl) (G := fun K => ((↑u.length : Int) == (0 : Int)) = false ∧ K (St.mk [(0, V.d (du u)), (1, V.d (du v)), (26, V.d (D.bool ((↑v.length : Int) == (0 : Int))))] [] 15)) (fun K => by kernel_rfl) ?_
    refine ⟨by simpa using h0, awp_cond rfl (fun h => ?_) (fun h => awp_skip ?_)⟩
    · refine awp_sx prog_ok hP hnt [] [] [] [4] (by kernel_rfl) (G := fun K => K (St.mk [(4, V.nil)] [] 16)) (fun K => by kernel_rfl) ?_
      refine awp_ret ⟨.inl rfl, ?_⟩
      have : y = 0 := ny.1 (by simpa using h)
      rw [this, Nat.mul_zero, dig_zero]
      exact retNil rfl
    · refine ⟨(), [], ⟨by omega, ?_⟩, ?_⟩
      · simp at h; exact List.length_pos_iff.2 h
      constructor <;> simp [hl, envOk, memOk, conv, St.get, St.blk]
  intro _ ⟨hu, hv⟩
  refine awp_sx prog_ok hP hnt [(31, .int .i64 (u.length + v.length : Nat))] [] [] [0, 1, 5] (by kernel_rfl) (G := fun K => IntKind.i64.wrap ((↑u.length : Int) + (↑v.length : Int)) = (↑(u.length + v.length) : Int) ∧ ((↑(u.length + v.length) : Int) = (↑(u.length + v.length) : Int) ∧ (0 : Int) ≤ (↑(u.length + v.length) : Int) ∧ (↑(u.length + v.length) : Int) * (↑4 : Int) ≤ (2 : Int) ^ 47) ∧ K (St.mk [(0, V.d (du u)), (1, V.d (du v)), (5, V.own 5 0 (↑(u.length + v.length) : Int).toNat 1)] [(5, some (Blk.mk (zeros (↑(u.length + v.length) : Int).toNat (TI.mk (Kind.int IntKind.u32) 1 4 [D.int IntKind.u32 (0 : Int)]).zero) true))] 7)) (fun K => by kernel_rfl) ?_
  refine ⟨by rw [w64] <;> omega, by omega, ?_⟩
  refine awp_cut (ι := List Nat) (fun o => ⟨[(5, .own 0 0 (u.length + v.length) 1)], [(0, some ⟨u32s o, true⟩)], 1⟩)
    (fun o => o.length = u.length + v.length ∧ Dg o ∧ val o = x * y) ?_ ?_
  · refine awp_sx prog_ok hP hnt [] [] [] [1, 5, 33, 34, 35] (by kernel_rfl) (G := fun K => K (St.mk [(1, V.d (du v)), (5, V.own 5 0 (↑(u.length + v.length) : Int).toNat 1), (33, V.d (du u)), (34, V.d (D.int IntKind.i64 (↑u.length : Int))), (35, V.d (D.int IntKind.i64 (0 : Int)))] [(5, some (Blk.mk (zeros (↑(u.length + v.length) : Int).toNat (TI.mk (Kind.int IntKind.u32) 1 4 [D.int IntKind.u32 (0 : Int)]).zero) true))] 10)) (fun K => by kernel_rfl) ?_
    refine awp_block ?_
    refine awp_loop (ι := Nat × List Nat) (fun p => ⟨[(1, .d (du v)), (5, .own 0 0 (u.length + v.length) 1), (33, .d (du u)), (34, .d (.int .i64 u.length)), (35, .d (.int .i64 p.1))], [(0, some ⟨u32s p.2, true⟩)], 1⟩)
      (fun p => p.1 ≤ u.length ∧ p.2.length = u.length + v.length ∧ Dg p.2 ∧ val (p.2.take (p.1 + v.length)) = val (u.take p.1) * y ∧ ∀ k, p.1 + v.length ≤ k → k < u.length + v.length → p.2[k]? = some 0) (fun p => u.length - p.1) (0, List.replicate (u.length + v.length) 0) [(0, 5)] ⟨by simp, by simp, dg_zeros _, ?_, ?_⟩ ?_ ?_
    · rw [List.take_replicate, val_zeros]; simp [val]
    · intro k _ hk; simp [hk]
    · constructor <;> simp [hl, envOk, memOk, conv, St.get, St.blk, zeros_u32, -Int.natCast_add]
    intro ⟨i, o⟩ ⟨hi, ho, hdo, hval, hz⟩
    dsimp only at hi ho hdo hval hz
    refine awp_sx prog_ok hP hnt [] [] [] [1, 5, 33, 34, 35, 36] (by kernel_rfl) (G := fun K => K (St.mk [(1, V.d (du v)), (5, V.own 0 0 (u.length + v.length) 1), (33, V.d (du u)), (34, V.d (D.int IntKind.i64 (↑u.length : Int))), (35, V.d (D.int IntKind.i64 (↑i : Int))), (36, V.d (D.bool (decide ((↑i : Int) < (↑u.length : Int)))))] [(0, some (Blk.mk (u32s o) true))] 2)) (fun K => by kernel_rfl) ?_
    refine awp_seq_k fun K hK => ?_
    refine awp_cond rfl (fun h => awp_skip (hK _ ?_)) (fun h => awp_exit ⟨o, [(0, 0)], ?_, ?_⟩)
    · simp at h
      obtain ⟨p, hp⟩ := get_ex (l := u) (i := i) (by omega)
      have hp' := dg_get dx hp
      have hzi := hz (i + v.length) (by omega) (by omega)
      refine awp_cut (ι := List Nat) (fun o => ⟨[(1, .d (du v)), (5, .own 0 0 (u.length + v.length) 1), (33, .d (du u)), (34, .d (.int .i64 u.length)), (35, .d (.int .i64 i))], [(0, some ⟨u32s o, true⟩)], 1⟩)
        (fun o => o.length = u.length + v.length ∧ Dg o ∧ val (o.take (i + 1 + v.length)) = val (u.take (i + 1)) * y ∧ ∀ k, i + 1 + v.length ≤ k → k < u.length + v.length → o[k]? = some 0) ?_ ?_
      · refine awp_block ?_
        refine awp_sx prog_ok hP hnt [] [] [some [.int .u32 p]] [1, 5, 6, 7, 33, 34, 35] (by kernel_rfl) (G := fun K => ((0 : Int) ≤ (↑i : Int) ∧ (↑i : Int) < (↑u.length : Int) ∧ ((↑i : Int).toNat + 1) * 1 ≤ (u32s u).length) ∧ (List.drop ((↑i : Int).toNat * 1) (u32s u))[0]? = some (D.int IntKind.u32 (↑p : Int)) ∧ K (St.mk [(1, V.d (du v)), (5, V.own 0 0 (u.length + v.length) 1), (33, V.d (du u)), (34, V.d (D.int IntKind.i64 (↑u.length : Int))), (35, V.d (D.int IntKind.i64 (↑i : Int))), (6, V.d (D.int IntKind.i64 (↑i : Int))), (7, V.d (D.int IntKind.u32 (↑p : Int)))] [(0, some (Blk.mk (u32s o) true))] 7)) (fun K => by kernel_rfl) ?_
        refine ⟨⟨by omega, by omega, by simp; omega⟩, by simp [hp], ?_⟩
        refine awp_seq_k fun K2 hK2 => ?_
        refine awp_sx prog_ok hP hnt [] [] [] [1, 5, 6, 7, 33, 34, 35, 41] (by kernel_rfl) (G := fun K => K (St.mk [(1, V.d (du v)), (5, V.own 0 0 (u.length + v.length) 1), (33, V.d (du u)), (34, V.d (D.int IntKind.i64 (↑u.length : Int))), (35, V.d (D.int IntKind.i64 (↑i : Int))), (6, V.d (D.int IntKind.i64 (↑i : Int))), (7, V.d (D.int IntKind.u32 (↑p : Int))), (41, V.d (D.bool ((↑p : Int) == (0 : Int))))] [(0, some (Blk.mk (u32s o) true))] 9)) (fun K => by kernel_rfl) ?_
        refine awp_cond rfl (fun h => awp_exit ⟨o, [(0, 0)], ?_, ?_⟩) (fun h => awp_skip (hK2 _ ?_))
        · simp at h
          subst h
          refine ⟨ho, hdo, ?_, fun k hk hk2 => hz k (by omega) hk2⟩
          rw [show i + 1 + v.length = i + v.length + 1 by omega, val_take_succ hzi, val_take_succ hp, hval]; simp
        · constructor <;> simp [hl, envOk, memOk, conv, St.get, St.blk]
        refine awp_sx prog_ok hP hnt [] [] [] [1, 5, 6, 7, 8, 33, 34, 35] (by kernel_rfl) (G := fun K => K (St.mk [(1, V.d (du v)), (5, V.own 0 0 (u.length + v.length) 1), (33, V.d (du u)), (34, V.d (D.int IntKind.i64 (↑u.length : Int))), (35, V.d (D.int IntKind.i64 (↑i : Int))), (6, V.d (D.int IntKind.i64 (↑i : Int))), (7, V.d (D.int IntKind.u32 (↑p : Int))), (8, V.d (D.int IntKind.u32 (0 : Int)))] [(0, some (Blk.mk (u32s o) true))] 10)) (fun K => by kernel_rfl) ?_
        refine awp_sx prog_ok hP hnt [(47, .int .i64 (i + v.length : Nat))] [] [] [1, 5, 6, 7, 8, 9, 33, 34, 35] (by kernel_rfl) (G := fun K => IntKind.i64.wrap ((↑i : Int) + (↑v.length : Int)) = (↑(i + v.length) : Int) ∧ ((0 : Int) ≤ (↑i : Int) ∧ (↑i : Int) < (↑(u.length + v.length) : Int) ∧ (↑i : Int) ≤ (↑(i + v.length) : Int) ∧ (↑(i + v.length) : Int) ≤ (↑(u.length + v.length) : Int)) ∧ K (St.mk [(1, V.d (du v)), (5, V.own 0 0 (u.length + v.length) 1), (33, V.d (du u)), (34, V.d (D.int IntKind.i64 (↑u.length : Int))), (35, V.d (D.int IntKind.i64 (↑i : Int))), (6, V.d (D.int IntKind.i64 (↑i : Int))), (7, V.d (D.int IntKind.u32 (↑p : Int))), (8, V.d (D.int IntKind.u32 (0 : Int))), (9, V.own 0 (0 + (↑i : Int).toNat * 1) ((↑(i + v.length) : Int).toNat - (↑i : Int).toNat) 1)] [(0, some (Blk.mk (u32s o) true))] 18)) (fun K => by kernel_rfl) ?_
        refine ⟨by rw [w64] <;> omega, ⟨by omega, by omega, by omega, by omega⟩, ?_⟩
        refine awp_cut (ι := Nat × List Nat) (fun r => ⟨[(1, .d (du v)), (5, .own 0 0 (u.length + v.length) 1), (6, .d (.int .i64 i)), (8, .d (.int .u32 r.1)), (33, .d (du u)), (34, .d (.int .i64 u.length)), (35, .d (.int .i64 i))], [(0, some ⟨u32s r.2, true⟩)], 1⟩)
          (fun r => r.1 < 4294967296 ∧ r.2.length = u.length + v.length ∧ Dg r.2 ∧ val (r.2.take (i + v.length)) + 4294967296 ^ (i + v.length) * r.1 = val (o.take (i + v.length)) + 4294967296 ^ i * p * y ∧ r.2.drop (i + v.length) = o.drop (i + v.length)) ?_ ?_
        · refine awp_sx prog_ok hP hnt [] [] [] [1, 5, 6, 7, 8, 9, 33, 34, 35, 49, 50, 51] (by kernel_rfl) (G := fun K => K (St.mk [(1, V.d (du v)), (5, V.own 0 0 (u.length + v.length) 1), (33, V.d (du u)), (34, V.d (D.int IntKind.i64 (↑u.length : Int))), (35, V.d (D.int IntKind.i64 (↑i : Int))), (6, V.d (D.int IntKind.i64 (↑i : Int))), (7, V.d (D.int IntKind.u32 (↑p : Int))), (8, V.d (D.int IntKind.u32 (0 : Int))), (9, V.own 0 (0 + (↑i : Int).toNat * 1) ((↑(i + v.length) : Int).toNat - (↑i : Int).toNat) 1), (49, V.d (du v)), (50, V.d (D.int IntKind.i64 (↑v.length : Int))), (51, V.d (D.int IntKind.i64 (0 : Int)))] [(0, some (Blk.mk (u32s o) true))] 21)) (fun K => by kernel_rfl) ?_
          refine awp_block ?_
          refine awp_loop (ι := Nat × Nat × List Nat) (fun r => ⟨[(1, .d (du v)), (5, .own 0 0 (u.length + v.length) 1), (6, .d (.int .i64 i)), (7, .d (.int .u32 p)), (8, .d (.int .u32 r.2.1)), (9, .own 0 i v.length 1), (33, .d (du u)), (34, .d (.int .i64 u.length)), (35, .d (.int .i64 i)), (49, .d (du v)), (50, .d (.int .i64 v.length)), (51, .d (.int .i64 r.1))], [(0, some ⟨u32s r.2.2, true⟩)], 1⟩)
            (fun r => r.1 ≤ v.length ∧ r.2.1 < 4294967296 ∧ r.2.2.length = u.length + v.length ∧ Dg r.2.2 ∧ val (r.2.2.take (i + r.1)) + 4294967296 ^ (i + r.1) * r.2.1 = val (o.take (i + r.1)) + 4294967296 ^ i * p * val (v.take r.1) ∧ r.2.2.drop (i + r.1) = o.drop (i + r.1)) (fun r => v.length - r.1) (0, 0, o) [(0, 0)] ⟨by simp, by simp, ho, hdo, by simp [val], rfl⟩ ?_ ?_
          · constructor <;> simp [hl, envOk, memOk, conv, St.get, St.blk, -Int.natCast_add]
          intro ⟨j, c, r⟩ ⟨hj, hc, hr, hdr, hvr, hdrop⟩
          dsimp only at hj hc hr hdr hvr hdrop
          refine awp_sx prog_ok hP hnt [] [] [] [1, 5, 6, 7, 8, 9, 33, 34, 35, 49, 50, 51, 52] (by kernel_rfl) (G := fun K => K (St.mk [(1, V.d (du v)), (5, V.own 0 0 (u.length + v.length) 1), (6, V.d (D.int IntKind.i64 (↑i : Int))), (7, V.d (D.int IntKind.u32 (↑p : Int))), (8, V.d (D.int IntKind.u32 (↑(c, r).fst : Int))), (9, V.own 0 i v.length 1), (33, V.d (du u)), (34, V.d (D.int IntKind.i64 (↑u.length : Int))), (35, V.d (D.int IntKind.i64 (↑i : Int))), (49, V.d (du v)), (50, V.d (D.int IntKind.i64 (↑v.length : Int))), (51, V.d (D.int IntKind.i64 (↑j : Int))), (52, V.d (D.bool (decide ((↑j : Int) < (↑v.length : Int)))))] [(0, some (Blk.mk (u32s (c, r).snd) true))] 2)) (fun K => by kernel_rfl) ?_
          refine awp_seq_k fun K3 hK3 => ?_
          refine awp_cond rfl (fun h => awp_skip (hK3 _ ?_)) (fun h => awp_exit ⟨(c, r), [(0, 0)], ?_, ?_⟩)
          · simp at h
            obtain ⟨q, hq⟩ := get_ex (l := v) (i := j) (by omega)
            obtain ⟨w, hw⟩ := get_ex (l := r) (i := i + j) (by omega)
            have hq' := dg_get dy hq
            have hw' := dg_get hdr hw
            have hwo : o[i + j]? = some w := by rw [← get_drop_eq hdrop (Nat.le_refl _)]; exact hw
            obtain ⟨f1, f2, f3, f4⟩ := mul_words hp' hq' hw' hc
            have hstep := mul_step (T := p * q + w + c) (by omega) hwo hq rfl hvr
            have g1 := mul32_fn p q hp' hq'
            obtain ⟨hi0, e1⟩ : ∃ z, z = p * q / 4294967296 := ⟨_, rfl⟩
            obtain ⟨lo0, e2⟩ : ∃ z, z = p * q % 4294967296 := ⟨_, rfl⟩
            obtain ⟨T, e3⟩ : ∃ z, z = p * q + w + c := ⟨_, rfl⟩
            rw [← e1, ← e2] at g1
            rw [← e1, ← e2] at f1 f3
            rw [← e2, ← e3] at f2
            rw [← e3] at f3 f4 hstep
            have hlo0 : lo0 < 4294967296 := by omega
            clear e1 e2 e3
            have g2 := add32_fn lo0 w 0 hlo0 hw' (by omega)
            obtain ⟨lo1, e4⟩ : ∃ z, z = (lo0 + w + 0) % 4294967296 := ⟨_, rfl⟩
            obtain ⟨c1, e5⟩ : ∃ z, z = (lo0 + w + 0) / 4294967296 := ⟨_, rfl⟩
            rw [← e4, ← e5] at g2
            rw [← e4] at f2
            rw [← e4, ← e5] at f3
            rw [← e5] at f1
            have hlo1 : lo1 < 4294967296 := by omega
            have g3 := add32_fn lo1 c 0 hlo1 hc (by omega)
            obtain ⟨c2, e6⟩ : ∃ z, z = (lo1 + c + 0) / 4294967296 := ⟨_, rfl⟩
            obtain ⟨s, e7⟩ : ∃ z, z = T % 4294967296 := ⟨_, rfl⟩
            obtain ⟨d, e8⟩ : ∃ z, z = T / 4294967296 := ⟨_, rfl⟩
            rw [f2, ← e7, ← e6] at g3
            rw [← e6, ← e8] at f3
            rw [← e7, ← e8] at hstep
            rw [← e8] at f4
            have hs : s < 4294967296 := by omega
            clear e4 e5 e6 e7 e8 f2
            refine awp_seq_k fun K4 hK4 => ?_
            refine awp_block ?_
            refine awp_sx prog_ok hP hnt [] [] [some [.int .u32 q]] [1, 5, 6, 7, 8, 9, 10, 11, 33, 34, 35, 49, 50, 51] (by kernel_rfl) (G := fun K => ((0 : Int) ≤ (↑j : Int) ∧ (↑j : Int) < (↑v.length : Int) ∧ ((↑j : Int).toNat + 1) * 1 ≤ (u32s v).length) ∧ (List.drop ((↑j : Int).toNat * 1) (u32s v))[0]? = some (D.int IntKind.u32 (↑q : Int)) ∧ K (St.mk [(1, V.d (du v)), (5, V.own 0 0 (u.length + v.length) 1), (6, V.d (D.int IntKind.i64 (↑i : Int))), (7, V.d (D.int IntKind.u32 (↑p : Int))), (8, V.d (D.int IntKind.u32 (↑c : Int))), (9, V.own 0 i v.length 1), (33, V.d (du u)), (34, V.d (D.int IntKind.i64 (↑u.length : Int))), (35, V.d (D.int IntKind.i64 (↑i : Int))), (49, V.d (du v)), (50, V.d (D.int IntKind.i64 (↑v.length : Int))), (51, V.d (D.int IntKind.i64 (↑j : Int))), (10, V.d (D.int IntKind.i64 (↑j : Int))), (11, V.d (D.int IntKind.u32 (↑q : Int)))] [(0, some (Blk.mk (u32s r) true))] 7)) (fun K => by kernel_rfl) ?_
            refine ⟨⟨by omega, by omega, by simp; omega⟩, by simp [hq], ?_⟩
            refine awp_sx prog_ok hP hnt [] [.val (.tup [.d (.int .u32 hi0), .d (.int .u32 lo0)])] [] [1, 5, 6, 7, 8, 9, 10, 12, 13, 33, 34, 35, 49, 50, 51] (by kernel_rfl) (G := fun K => Fn Try.prog 232 [V.d (D.int IntKind.u32 (↑p : Int)), V.d (D.int IntKind.u32 (↑q : Int))] [] (V.tup [V.d (D.int IntKind.u32 (↑hi0 : Int)), V.d (D.int IntKind.u32 (↑lo0 : Int))]) [] ∧ K (St.mk [(1, V.d (du v)), (5, V.own 0 0 (u.length + v.length) 1), (6, V.d (D.int IntKind.i64 (↑i : Int))), (7, V.d (D.int IntKind.u32 (↑p : Int))), (8, V.d (D.int IntKind.u32 (↑c : Int))), (9, V.own 0 i v.length 1), (33, V.d (du u)), (34, V.d (D.int IntKind.i64 (↑u.length : Int))), (35, V.d (D.int IntKind.i64 (↑i : Int))), (49, V.d (du v)), (50, V.d (D.int IntKind.i64 (↑v.length : Int))), (51, V.d (D.int IntKind.i64 (↑j : Int))), (10, V.d (D.int IntKind.i64 (↑j : Int))), (12, V.d (D.int IntKind.u32 (↑hi0 : Int))), (13, V.d (D.int IntKind.u32 (↑lo0 : Int)))] [(0, some (Blk.mk (u32s r) true))] 15)) (fun K => by kernel_rfl) ?_
            refine ⟨g1, ?_⟩
            refine awp_sx prog_ok hP hnt [] [.val (.tup [.d (.int .u32 lo1), .d (.int .u32 c1)])] [some [.int .u32 w]] [1, 5, 6, 7, 8, 9, 10, 12, 13, 14, 33, 34, 35, 49, 50, 51] (by kernel_rfl) (G := fun K => ((0 : Int) ≤ (↑j : Int) ∧ (↑j : Int) < (↑v.length : Int)) ∧ (u32s r)[i + (↑j : Int).toNat * 1]? = some (D.int IntKind.u32 (↑w : Int)) ∧ Fn Try.prog 228 [V.d (D.int IntKind.u32 (↑lo0 : Int)), V.d (D.int IntKind.u32 (↑w : Int)), V.d (D.int IntKind.u32 (0 : Int))] [] (V.tup [V.d (D.int IntKind.u32 (↑lo1 : Int)), V.d (D.int IntKind.u32 (↑c1 : Int))]) [] ∧ K (St.mk [(1, V.d (du v)), (5, V.own 0 0 (u.length + v.length) 1), (6, V.d (D.int IntKind.i64 (↑i : Int))), (7, V.d (D.int IntKind.u32 (↑p : Int))), (8, V.d (D.int IntKind.u32 (↑c : Int))), (9, V.own 0 i v.length 1), (33, V.d (du u)), (34, V.d (D.int IntKind.i64 (↑u.length : Int))), (35, V.d (D.int IntKind.i64 (↑i : Int))), (49, V.d (du v)), (50, V.d (D.int IntKind.i64 (↑v.length : Int))), (51, V.d (D.int IntKind.i64 (↑j : Int))), (10, V.d (D.int IntKind.i64 (↑j : Int))), (12, V.d (D.int IntKind.u32 (↑hi0 : Int))), (13, V.d (D.int IntKind.u32 (↑lo1 : Int))), (14, V.d (D.int IntKind.u32 (↑c1 : Int)))] [(0, some (Blk.mk (u32s r) true))] 26)) (fun K => by kernel_rfl) ?_
            have hi' : (i : Nat) + j < u.length + v.length := by omega
            refine ⟨⟨by omega, by omega⟩, by simp [hw], g2, ?_⟩
            refine awp_sx prog_ok hP hnt [(73, .int .u32 (hi0 + c1 : Nat))] [] [] [1, 5, 6, 7, 8, 9, 10, 12, 13, 33, 34, 35, 49, 50, 51] (by kernel_rfl) (G := fun K => IntKind.u32.wrap ((↑hi0 : Int) + (↑c1 : Int)) = (↑(hi0 + c1) : Int) ∧ K (St.mk [(1, V.d (du v)), (5, V.own 0 0 (u.length + v.length) 1), (6, V.d (D.int IntKind.i64 (↑i : Int))), (7, V.d (D.int IntKind.u32 (↑p : Int))), (8, V.d (D.int IntKind.u32 (↑c : Int))), (9, V.own 0 i v.length 1), (33, V.d (du u)), (34, V.d (D.int IntKind.i64 (↑u.length : Int))), (35, V.d (D.int IntKind.i64 (↑i : Int))), (49, V.d (du v)), (50, V.d (D.int IntKind.i64 (↑v.length : Int))), (51, V.d (D.int IntKind.i64 (↑j : Int))), (10, V.d (D.int IntKind.i64 (↑j : Int))), (12, V.d (D.int IntKind.u32 (↑(hi0 + c1) : Int))), (13, V.d (D.int IntKind.u32 (↑lo1 : Int)))] [(0, some (Blk.mk (u32s r) true))] 30)) (fun K => by kernel_rfl) ?_
            refine ⟨by rw [u32w] <;> omega, ?_⟩
            refine awp_sx prog_ok hP hnt [] [.val (.tup [.d (.int .u32 s), .d (.int .u32 c2)])] [] [1, 5, 6, 7, 9, 10, 12, 13, 14, 33, 34, 35, 49, 50, 51] (by kernel_rfl) (G := fun K => Fn Try.prog 228 [V.d (D.int IntKind.u32 (↑lo1 : Int)), V.d (D.int IntKind.u32 (↑c : Int)), V.d (D.int IntKind.u32 (0 : Int))] [] (V.tup [V.d (D.int IntKind.u32 (↑s : Int)), V.d (D.int IntKind.u32 (↑c2 : Int))]) [] ∧ K (St.mk [(1, V.d (du v)), (5, V.own 0 0 (u.length + v.length) 1), (6, V.d (D.int IntKind.i64 (↑i : Int))), (7, V.d (D.int IntKind.u32 (↑p : Int))), (9, V.own 0 i v.length 1), (33, V.d (du u)), (34, V.d (D.int IntKind.i64 (↑u.length : Int))), (35, V.d (D.int IntKind.i64 (↑i : Int))), (49, V.d (du v)), (50, V.d (D.int IntKind.i64 (↑v.length : Int))), (51, V.d (D.int IntKind.i64 (↑j : Int))), (10, V.d (D.int IntKind.i64 (↑j : Int))), (12, V.d (D.int IntKind.u32 (↑(hi0 + c1) : Int))), (13, V.d (D.int IntKind.u32 (↑s : Int))), (14, V.d (D.int IntKind.u32 (↑c2 : Int)))] [(0, some (Blk.mk (u32s r) true))] 38)) (fun K => by kernel_rfl) ?_
            refine ⟨g3, ?_⟩
            refine awp_x prog_ok hP hnt [(85, .int .u32 d)] [] [] [1, 5, 6, 7, 8, 9, 33, 34, 35, 49, 50, 51] (by kernel_rfl) (G := fun K => IntKind.u32.wrap ((↑(hi0 + c1) : Int) + (↑c2 : Int)) = (↑d : Int) ∧ ((0 : Int) ≤ (↑j : Int) ∧ (↑j : Int) < (↑v.length : Int)) ∧ i + (↑j : Int).toNat * 1 + [D.int IntKind.u32 (↑s : Int)].length ≤ (u32s r).length ∧ K (St.mk [(1, V.d (du v)), (5, V.own 0 0 (u.length + v.length) 1), (6, V.d (D.int IntKind.i64 (↑i : Int))), (7, V.d (D.int IntKind.u32 (↑p : Int))), (9, V.own 0 i v.length 1), (33, V.d (du u)), (34, V.d (D.int IntKind.i64 (↑u.length : Int))), (35, V.d (D.int IntKind.i64 (↑i : Int))), (49, V.d (du v)), (50, V.d (D.int IntKind.i64 (↑v.length : Int))), (51, V.d (D.int IntKind.i64 (↑j : Int))), (8, V.d (D.int IntKind.u32 (↑d : Int)))] [(0, some (Blk.mk (setCells (u32s r) (i + (↑j : Int).toNat * 1) [D.int IntKind.u32 (↑s : Int)]) true))] 47)) (fun K => by kernel_rfl) ?_
            refine ⟨by rw [u32w] <;> omega, ⟨by omega, by omega⟩, by simp [hr]; omega, hK4 _ ?_⟩
            refine awp_x prog_ok hP hnt [(87, .int .i64 (j + 1 : Nat))] [] [] [1, 5, 6, 7, 8, 9, 33, 34, 35, 49, 50, 51] (by kernel_rfl) (G := fun K => IntKind.i64.wrap ((↑j : Int) + (1 : Int)) = (↑(j + 1) : Int) ∧ K (St.mk [(1, V.d (du v)), (5, V.own 0 0 (u.length + v.length) 1), (6, V.d (D.int IntKind.i64 (↑i : Int))), (7, V.d (D.int IntKind.u32 (↑p : Int))), (9, V.own 0 i v.length 1), (33, V.d (du u)), (34, V.d (D.int IntKind.i64 (↑u.length : Int))), (35, V.d (D.int IntKind.i64 (↑i : Int))), (49, V.d (du v)), (50, V.d (D.int IntKind.i64 (↑v.length : Int))), (51, V.d (D.int IntKind.i64 (↑(j + 1) : Int))), (8, V.d (D.int IntKind.u32 (↑d : Int)))] [(0, some (Blk.mk (setCells (u32s r) (i + (↑j : Int).toNat * 1) [D.int IntKind.u32 (↑s : Int)]) true))] 49)) (fun K => by kernel_rfl) ?_
            refine ⟨by rw [w64] <;> omega, (j + 1, d, r.set (i + j) s), [(0, 0)], ⟨⟨by simp; omega, f4, by simp [hr], dg_set hdr hs, hstep, ?_⟩, by simp; omega⟩, ?_⟩
            · have := congrArg (List.drop 1) hdrop
              rw [List.drop_drop, List.drop_drop] at this
              simp only
              rw [drop_set_lt (by omega)]; exact this
            constructor <;> simp [hl, envOk, memOk, conv, St.get, St.blk, setCells_u32, u32s_set]
          · simp at h
            have : j = v.length := by omega
            subst this
            rw [List.take_of_length_le (Nat.le_refl _), vy] at hvr
            exact ⟨hc, hr, hdr, hvr, hdrop⟩
          · constructor <;> simp [hl, envOk, memOk, conv, St.get, St.blk]
        intro ⟨c, r⟩ ⟨hc, hr, hdr, hvr, hdrop⟩
        dsimp only at hc hr hdr hvr hdrop
        refine awp_x prog_ok hP hnt [(92, .int .i64 (i + v.length : Nat))] [] [] [1, 5, 33, 34, 35] (by kernel_rfl) (G := fun K => IntKind.i64.wrap ((↑i : Int) + (↑v.length : Int)) = (↑(i + v.length) : Int) ∧ ((0 : Int) ≤ (↑(i + v.length) : Int) ∧ (↑(i + v.length) : Int) < (↑(u.length + v.length) : Int)) ∧ 0 + (↑(i + v.length) : Int).toNat * 1 + [D.int IntKind.u32 (↑c : Int)].length ≤ (u32s r).length ∧ K (St.mk [(1, V.d (du v)), (5, V.own 0 0 (u.length + v.length) 1), (33, V.d (du u)), (34, V.d (D.int IntKind.i64 (↑u.length : Int))), (35, V.d (D.int IntKind.i64 (↑i : Int)))] [(0, some (Blk.mk (setCells (u32s r) (0 + (↑(i + v.length) : Int).toNat * 1) [D.int IntKind.u32 (↑c : Int)]) true))] 9)) (fun K => by kernel_rfl) ?_
        have hset := val_set (l := r) (i := i + v.length) (s := c) (by omega)
        refine ⟨by rw [w64] <;> omega, ⟨by omega, by omega⟩, by simp [hr]; omega, r.set (i + v.length) c, [(0, 0)], ⟨by simp [hr], dg_set hdr hc, ?_, fun k hk hk2 => ?_⟩, ?_⟩
        · rw [show i + 1 + v.length = i + v.length + 1 by omega, hset, hvr, hval, val_take_succ hp, Nat.add_mul]
        · rw [List.getElem?_set_ne (by omega), get_drop_eq hdrop (by omega)]; exact hz k (by omega) hk2
        constructor <;> simp [hl, envOk, memOk, conv, St.get, St.blk, setCells_u32, u32s_set, -Int.natCast_add]
      intro o ⟨ho, hdo, hval, hz⟩
      refine awp_x prog_ok hP hnt [(95, .int .i64 (i + 1 : Nat))] [] [] [1, 5, 33, 34, 35] (by kernel_rfl) (G := fun K => IntKind.i64.wrap ((↑i : Int) + (1 : Int)) = (↑(i + 1) : Int) ∧ K (St.mk [(1, V.d (du v)), (5, V.own 0 0 (u.length + v.length) 1), (33, V.d (du u)), (34, V.d (D.int IntKind.i64 (↑u.length : Int))), (35, V.d (D.int IntKind.i64 (↑(i + 1) : Int)))] [(0, some (Blk.mk (u32s o) true))] 3)) (fun K => by kernel_rfl) ?_
      refine ⟨by rw [w64] <;> omega, (i + 1, o), [(0, 0)], ⟨⟨by simp; omega, ho, hdo, hval, hz⟩, by simp; omega⟩, ?_⟩
      constructor <;> simp [hl, envOk, memOk, conv, St.get, St.blk]
    · simp at h
      have : i = u.length := by omega
      subst this
      rw [List.take_of_length_le (by omega), List.take_of_length_le (Nat.le_refl _), vx] at hval
      exact ⟨ho, hdo, hval⟩
    · constructor <;> simp [hl, envOk, memOk, conv, St.get, St.blk]
  intro o ⟨ho, hdo, hval⟩
  have ht := trim_fn o (by omega) hdo
  rw [hval] at ht
  refine awp_sx prog_ok hP hnt [] [.val (.d (du (dig (x * y))))] [] [4] (by kernel_rfl) (G := fun K => Fn Try.prog 212 [V.d (D.lst (u.length + v.length) (List.take ((u.length + v.length) * 1) (List.drop 0 (u32s o))))] [] (V.d (du (dig (x * y)))) [] ∧ K (St.mk [(4, V.d (du (dig (x * y))))] [(0, some (Blk.mk (u32s o) false))] 4)) (fun K => by kernel_rfl) ?_
  refine ⟨by simp only [Nat.zero_add, Int.toNat_natCast, Nat.mul_one, setCells_u32, own_du ho]; exact ht, awp_ret ⟨.inl rfl, retD rfl⟩⟩
end Go.Abs

set_option linter.unusedVariables false
set_option linter.unusedSimpArgs false
namespace Go.Abs
open Go Go.Proofs

/-! ### Whole numbers with a sign -/
def ic (s : Bool) (l : List Nat) : List D := [.bool s, du l]
def sgn (s : Bool) (n : Nat) : Int := if s then -(n : Int) else n
def iz (z : Int) : List D := [.bool (decide (z < 0)), du (dig z.natAbs)]
def ival (s : Bool) (l : List Nat) : Int := sgn s (val l)
def cmpZ (x y : Int) : Int := if x > y then 1 else if x < y then -1 else 0

theorem iz_ic (z : Int) : iz z = ic (decide (z < 0)) (dig z.natAbs) := rfl
theorem ival_iz (z : Int) : ival (decide (z < 0)) (dig z.natAbs) = z := by
  unfold ival sgn
  rw [val_dig]
  by_cases h : z < 0 <;> simp [h] <;> omega
theorem sgn_abs (s : Bool) (n : Nat) : (sgn s n).natAbs = n := by unfold sgn; split <;> omega
theorem made_iz (s : Bool) (n : Nat) : ic (s && decide (0 < (dig n).length)) (dig n) = iz (sgn s n) := by
  have h : 0 < (dig n).length ↔ n ≠ 0 := by rw [List.length_pos_iff, ne_eq, dig_nil]
  have hb : (s && decide (0 < (dig n).length)) = decide (sgn s n < 0) := by
    rw [Bool.eq_iff_iff]
    cases s with
    | true => simp [sgn, h]; omega
    | false => simp [sgn]
  unfold iz ic
  rw [hb, sgn_abs]

theorem retC {T : Tab} {c t b : Nat} {s : St} {cs : List D} {l : Bool} (h1 : s.get c = .ptr b 0) (h2 : s.blk b = some ⟨cs, l⟩) (ha : Tab.agg T t = true) (hs : T.size t = cs.length) : RetOk T [.cell c t] (.agg cs) [] s := by
  unfold RetOk evalRes
  rw [h1]
  simp only [h2, ha, if_true, hs]
  refine ⟨by omega, .inl ⟨?_, trivial⟩⟩
  rw [List.drop_zero, List.take_of_length_le (Nat.le_refl _)]
  rfl

theorem retOwn {T : Tab} {t b off n sz : Nat} {s : St} {blk : Blk} {d : D} (h : s.get t = .own b off n sz) (h2 : s.blk b = some blk) (h3 : D.lst n ((blk.cells.drop off).take (n * sz)) = d) : RetOk T [.tmp t] (.d d) [] s := by
  refine .inr ?_
  show frzArgs s.blk [s.get t] _
  rw [h]
  simp only [frzArgs, frzArg, h2]
  exact ⟨by rw [← h3]; rfl, trivial⟩
end Go.Abs

set_option linter.unusedVariables false
set_option linter.unusedSimpArgs false
namespace Go.Abs
open Go Go.Proofs
set_option maxRecDepth 100000

theorem made_fn (s : Bool) (n : Nat) : Fn Try.prog 171 [.d (.bool s), .d (du (dig n))] [] (.agg (iz (sgn s n))) [] := by
  refine fn0 (nt := 13) (res := [.cell 4 46]) Try.func171 rfl (by decide) rfl rfl rfl rfl ?_
  intro C hP hnt hl
  rw [← made_iz]
  refine awp_sx prog_ok hP hnt [] [] [] [0, 1, 4] (by kernel_rfl) (G := fun K => K (St.mk [(0, V.d (D.bool s)), (1, V.d (du (dig n))), (4, V.ptr 0 0)] [(0, some (Blk.mk [D.bool false, D.lst 0 []] true))] 1)) (fun K => by kernel_rfl) ?_
  cases s with
  | true =>
    refine awp_sx prog_ok hP hnt [] [] [] [4] (by kernel_rfl) (G := fun K => 0 + (setCells (setCells (TI.mk (Kind.struct [(0, 1), (1, 1)]) 2 32 [D.bool false, D.lst 0 []]).zero 0 [D.bool (decide ((↑(dig n).length : Int) > (0 : Int)))]) 1 [du (dig n)]).length ≤ [D.bool false, D.lst 0 []].length ∧ K (St.mk [(4, V.ptr 0 0)] [(0, some (Blk.mk [D.bool (decide ((↑(dig n).length : Int) > (0 : Int))), du (dig n)] true))] 10)) (fun K => by kernel_rfl) ?_
    refine ⟨by simp, awp_ret ⟨.inl rfl, retC (l := true) rfl ?_ rfl rfl⟩⟩
    simp [St.blk, ic]
  | false =>
    refine awp_sx prog_ok hP hnt [] [] [] [4] (by kernel_rfl) (G := fun K => 0 + (setCells (setCells (TI.mk (Kind.struct [(0, 1), (1, 1)]) 2 32 [D.bool false, D.lst 0 []]).zero 0 [D.bool false]) 1 [du (dig n)]).length ≤ [D.bool false, D.lst 0 []].length ∧ K (St.mk [(4, V.ptr 0 0)] [(0, some (Blk.mk [D.bool false, du (dig n)] true))] 10)) (fun K => by kernel_rfl) ?_
    refine ⟨by simp, awp_ret ⟨.inl rfl, retC (l := true) rfl ?_ rfl rfl⟩⟩
    simp [St.blk, ic]

theorem made_fn' {s : Bool} {n : Nat} {z : Int} (h : z = sgn s n) : Fn Try.prog 171 [.d (.bool s), .d (du (dig n))] [] (.agg (iz z)) [] := h ▸ made_fn s n

theorem iOf_fn (n : Int) (h1 : -9223372036854775808 ≤ n) (h2 : n ≤ 9223372036854775807) : Fn Try.prog 74 [.d (.int .i64 n)] [] (.agg (iz n)) [] := by
  refine fn0 (nt := 14) (res := [.cell 2 46]) Try.func74 rfl (by decide) rfl rfl rfl rfl ?_
  intro C hP hnt hl
  refine awp_sx prog_ok hP hnt [] [] [] [0, 2] (by kernel_rfl) (G := fun K => K (St.mk [(0, V.d (D.int IntKind.i64 n)), (2, V.ptr 0 0)] [(0, some (Blk.mk [D.bool false, D.lst 0 []] true))] 1)) (fun K => by kernel_rfl) ?_
  refine awp_seq_k fun K hK => ?_
  refine awp_sx prog_ok hP hnt [] [] [] [0, 2, 4] (by kernel_rfl) (G := fun K => K (St.mk [(0, V.d (D.int IntKind.i64 n)), (2, V.ptr 0 0), (4, V.d (D.bool (decide (n < (0 : Int)))))] [(0, some (Blk.mk [D.bool false, D.lst 0 []] true))] 3)) (fun K => by kernel_rfl) ?_
  refine awp_cond rfl (fun h => ?_) (fun h => awp_skip (hK _ ?_))
  · simp at h
    refine awp_sx prog_ok hP hnt [(7, .int .u64 (n.natAbs : Nat))] [.val (.d (du (dig n.natAbs))), .val (.agg (iz n))] [] [2] (by kernel_rfl) (G := fun K => IntKind.u64.wrap ((0 : Int) - IntKind.u64.wrap n) = (↑n.natAbs : Int) ∧ Fn Try.prog 155 [V.d (D.int IntKind.u64 (↑n.natAbs : Int))] [] (V.d (du (dig n.natAbs))) [] ∧ Fn Try.prog 171 [V.d (D.bool true), V.d (du (dig n.natAbs))] [] (V.agg [D.bool (decide (n < (0 : Int))), du (dig n.natAbs)]) [] ∧ 0 + (iz n).length ≤ [D.bool false, D.lst 0 []].length ∧ K (St.mk [(2, V.ptr 0 0)] [(0, some (Blk.mk [D.bool (decide (n < (0 : Int))), du (dig n.natAbs)] true))] 9)) (fun K => by kernel_rfl) ?_
    refine ⟨?_, of_fn _ (by omega), made_fn' (by simp [sgn]; omega), by simp [iz], awp_ret ⟨.inl rfl, retC (l := true) rfl rfl rfl rfl⟩⟩
    simp only [IntKind.wrap_u64]; omega
  · simp at h
    refine awp_sx prog_ok hP hnt [(11, .int .u64 (n.natAbs : Nat))] [.val (.d (du (dig n.natAbs))), .val (.agg (iz n))] [] [2] (by kernel_rfl) (G := fun K => IntKind.u64.wrap n = (↑n.natAbs : Int) ∧ Fn Try.prog 155 [V.d (D.int IntKind.u64 (↑n.natAbs : Int))] [] (V.d (du (dig n.natAbs))) [] ∧ Fn Try.prog 171 [V.d (D.bool false), V.d (du (dig n.natAbs))] [] (V.agg [D.bool (decide (n < (0 : Int))), du (dig n.natAbs)]) [] ∧ 0 + (iz n).length ≤ [D.bool false, D.lst 0 []].length ∧ K (St.mk [(2, V.ptr 0 0)] [(0, some (Blk.mk [D.bool (decide (n < (0 : Int))), du (dig n.natAbs)] true))] 8)) (fun K => by kernel_rfl) ?_
    refine ⟨?_, of_fn _ (by omega), made_fn' (by simp [sgn]; omega), by simp [iz], awp_ret ⟨.inl rfl, retC (l := true) rfl rfl rfl rfl⟩⟩
    rw [u64w] <;> omega

theorem sign_fn (s : Bool) (l : List Nat) (h : l.length ≤ 2 ^ 40) (hd : Dg l) : Fn Try.prog 102 [.agg (ic s l)] [] (.d (.int .i64 (ival s l).sign)) [] := by
  refine fn0 (nt := 10) (res := [.tmp 2]) Try.func102 rfl (by decide) rfl rfl rfl rfl ?_
  intro C hP hnt hl
  refine awp_sx prog_ok hP hnt [] [] [] [1] (by kernel_rfl) (G := fun K => K (St.mk [(1, V.ptr 0 0)] [(0, some (Blk.mk [D.bool s, du l] true))] 2)) (fun K => by kernel_rfl) ?_
  refine awp_seq_k fun K hK => ?_
  refine awp_block ?_
  refine awp_sx prog_ok hP hnt [] [.val (.d (.bool (decide (val l = 0))))] [] [1, 3] (by kernel_rfl) (G := fun K => Fn Try.prog 187 [V.d (du l)] [] (V.d (D.bool (decide (val l = 0)))) [] ∧ K (St.mk [(1, V.ptr 0 0), (3, V.d (D.bool (decide (val l = 0))))] [(0, some (Blk.mk [D.bool s, du l] true))] 6)) (fun K => by kernel_rfl) ?_
  refine ⟨isZero_fn l (by omega) hd, ?_⟩
  refine awp_cond rfl (fun h => ?_) (fun h => ?_)
  · simp at h
    refine awp_sx prog_ok hP hnt [] [] [] [2] (by kernel_rfl) (G := fun K => K (St.mk [(2, V.d (D.int IntKind.i64 (0 : Int)))] [(0, some (Blk.mk [D.bool s, du l] true))] 7)) (fun K => by kernel_rfl) ?_
    refine awp_ret ⟨.inl rfl, retD ?_⟩
    simp [ival, sgn, h]
  simp at h
  refine awp_sx prog_ok hP hnt [] [] [] [7] (by kernel_rfl) (G := fun K => K (St.mk [(7, V.d (D.bool s))] [(0, some (Blk.mk [D.bool s, du l] true))] 9)) (fun K => by kernel_rfl) ?_
  refine awp_cond rfl (fun h2 => ?_) (fun h2 => awp_skip (hK _ ?_))
  · subst h2
    refine awp_sx prog_ok hP hnt [] [] [] [2] (by kernel_rfl) (G := fun K => K (St.mk [(2, V.d (D.int IntKind.i64 (-1 : Int)))] [(0, some (Blk.mk [D.bool true, du l] true))] 10)) (fun K => by kernel_rfl) ?_
    refine awp_ret ⟨.inl rfl, retD ?_⟩
    rw [Int.sign_eq_neg_one_of_neg]; · rfl
    simp [ival, sgn]; omega
  · subst h2
    refine awp_sx prog_ok hP hnt [] [] [] [2] (by kernel_rfl) (G := fun K => K (St.mk [(2, V.d (D.int IntKind.i64 (1 : Int)))] [(0, some (Blk.mk [D.bool false, du l] true))] 10)) (fun K => by kernel_rfl) ?_
    refine awp_ret ⟨.inl rfl, retD ?_⟩
    rw [Int.sign_eq_one_of_pos]; · rfl
    simp [ival, sgn]; omega
end Go.Abs

set_option linter.unusedVariables false
set_option linter.unusedSimpArgs false
namespace Go.Abs
open Go Go.Proofs
set_option maxRecDepth 100000


theorem cmpZ_gt {x y : Int} (h : y < x) : cmpZ x y = 1 := by simp [cmpZ, h]
theorem cmpZ_lt {x y : Int} (h : x < y) : cmpZ x y = -1 := by simp [cmpZ, h]; omega
theorem sign_cases (x : Int) : (x < 0 ∧ x.sign = -1) ∨ (x = 0 ∧ x.sign = 0) ∨ (0 < x ∧ x.sign = 1) := by
  rcases Int.lt_trichotomy x 0 with h | h | h
  · exact .inl ⟨h, Int.sign_eq_neg_one_of_neg h⟩
  · subst h; exact .inr (.inl ⟨rfl, rfl⟩)
  · exact .inr (.inr ⟨h, Int.sign_eq_one_of_pos h⟩)

theorem icmp_fn (s t : Bool) (l m : List Nat) (hl1 : l.length ≤ 2 ^ 40) (hm1 : m.length ≤ 2 ^ 40) (dl : Dg l) (dm : Dg m) : Fn Try.prog 143 [.agg (ic s l), .agg (ic t m)] [] (.d (.int .i64 (cmpZ (ival s l) (ival t m)))) [] := by
  refine fn0 (nt := 32) (res := [.tmp 4]) Try.func143 rfl (by decide) rfl rfl rfl rfl ?_
  intro C hP hnt hl
  refine awp_sx prog_ok hP hnt [] [] [] [2, 3] (by kernel_rfl) (G := fun K => K (St.mk [(2, V.ptr 0 0), (3, V.ptr 1 0)] [(0, some (Blk.mk [D.bool s, du l] true)), (1, some (Blk.mk [D.bool t, du m] true))] 3)) (fun K => by kernel_rfl) ?_
  refine awp_sx prog_ok hP hnt [] [.val (.d (.int .i64 (ival s l).sign)), .val (.d (.int .i64 (ival t m).sign))] [] [2, 3, 5, 6] (by kernel_rfl) (G := fun K => Fn Try.prog 102 [V.agg [D.bool s, du l]] [] (V.d (D.int IntKind.i64 (ival s l).sign)) [] ∧ Fn Try.prog 102 [V.agg [D.bool t, du m]] [] (V.d (D.int IntKind.i64 (ival t m).sign)) [] ∧ K (St.mk [(2, V.ptr 0 0), (3, V.ptr 1 0), (5, V.d (D.int IntKind.i64 (ival s l).sign)), (6, V.d (D.int IntKind.i64 (ival t m).sign))] [(0, some (Blk.mk [D.bool s, du l] true)), (1, some (Blk.mk [D.bool t, du m] true))] 9)) (fun K => by kernel_rfl) ?_
  refine ⟨sign_fn s l hl1 dl, sign_fn t m hm1 dm, ?_⟩
  have cx := sign_cases (ival s l)
  have cy := sign_cases (ival t m)
  have ex : ival s l = sgn s (val l) := rfl
  have ey : ival t m = sgn t (val m) := rfl
  unfold sgn at ex ey
  refine awp_seq_k fun K hK => ?_
  refine awp_block ?_
  refine awp_sx prog_ok hP hnt [] [] [] [2, 3, 5, 6, 11] (by kernel_rfl) (G := fun K => K (St.mk [(2, V.ptr 0 0), (3, V.ptr 1 0), (5, V.d (D.int IntKind.i64 (ival s l).sign)), (6, V.d (D.int IntKind.i64 (ival t m).sign)), (11, V.d (D.bool (decide ((ival s l).sign > (ival t m).sign))))] [(0, some (Blk.mk [D.bool s, du l] true)), (1, some (Blk.mk [D.bool t, du m] true))] 13)) (fun K => by kernel_rfl) ?_
  refine awp_cond rfl (fun h => ?_) (fun h => ?_)
  · simp at h
    refine awp_sx prog_ok hP hnt [] [] [] [4] (by kernel_rfl) (G := fun K => K (St.mk [(4, V.d (D.int IntKind.i64 (1 : Int)))] [(0, some (Blk.mk [D.bool s, du l] true)), (1, some (Blk.mk [D.bool t, du m] true))] 14)) (fun K => by kernel_rfl) ?_
    refine awp_ret ⟨.inl rfl, retD ?_⟩
    rw [cmpZ_gt (by omega)]; rfl
  simp at h
  refine awp_sx prog_ok hP hnt [] [] [] [2, 3, 5, 15] (by kernel_rfl) (G := fun K => K (St.mk [(2, V.ptr 0 0), (3, V.ptr 1 0), (5, V.d (D.int IntKind.i64 (ival s l).sign)), (15, V.d (D.bool (decide ((ival s l).sign < (ival t m).sign))))] [(0, some (Blk.mk [D.bool s, du l] true)), (1, some (Blk.mk [D.bool t, du m] true))] 17)) (fun K => by kernel_rfl) ?_
  refine awp_cond rfl (fun h2 => ?_) (fun h2 => ?_)
  · simp at h2
    refine awp_sx prog_ok hP hnt [] [] [] [4] (by kernel_rfl) (G := fun K => K (St.mk [(4, V.d (D.int IntKind.i64 (-1 : Int)))] [(0, some (Blk.mk [D.bool s, du l] true)), (1, some (Blk.mk [D.bool t, du m] true))] 18)) (fun K => by kernel_rfl) ?_
    refine awp_ret ⟨.inl rfl, retD ?_⟩
    rw [cmpZ_lt (by omega)]; rfl
  simp at h2
  refine awp_sx prog_ok hP hnt [] [] [] [2, 3, 19] (by kernel_rfl) (G := fun K => K (St.mk [(2, V.ptr 0 0), (3, V.ptr 1 0), (19, V.d (D.bool (decide ((ival s l).sign < (0 : Int)))))] [(0, some (Blk.mk [D.bool s, du l] true)), (1, some (Blk.mk [D.bool t, du m] true))] 20)) (fun K => by kernel_rfl) ?_
  refine awp_cond rfl (fun h3 => ?_) (fun h3 => awp_skip (hK _ ?_))
  · simp at h3
    refine awp_sx prog_ok hP hnt [] [.val (.d (.int .i64 (cmpI (val m) (val l))))] [] [4] (by kernel_rfl) (G := fun K => Fn Try.prog 153 [V.d (du m), V.d (du l)] [] (V.d (D.int IntKind.i64 (cmpI (val m) (val l)))) [] ∧ K (St.mk [(4, V.d (D.int IntKind.i64 (cmpI (val m) (val l))))] [(0, some (Blk.mk [D.bool s, du l] true)), (1, some (Blk.mk [D.bool t, du m] true))] 26)) (fun K => by kernel_rfl) ?_
    refine ⟨cmp_fn m l (by omega) (by omega) dm dl, awp_ret ⟨.inl rfl, retD ?_⟩⟩
    have : cmpI (val m) (val l) = cmpZ (ival s l) (ival t m) := by
      rw [ex, ey]
      cases s <;> cases t <;> simp at ex ey <;> first | omega | (simp only [cmpI, cmpZ, if_true]; split <;> split <;> first | omega | (split <;> omega) | rfl)
    rw [← this]; rfl
  · simp at h3
    refine awp_sx prog_ok hP hnt [] [.val (.d (.int .i64 (cmpI (val l) (val m))))] [] [4] (by kernel_rfl) (G := fun K => Fn Try.prog 153 [V.d (du l), V.d (du m)] [] (V.d (D.int IntKind.i64 (cmpI (val l) (val m)))) [] ∧ K (St.mk [(4, V.d (D.int IntKind.i64 (cmpI (val l) (val m))))] [(0, some (Blk.mk [D.bool s, du l] true)), (1, some (Blk.mk [D.bool t, du m] true))] 26)) (fun K => by kernel_rfl) ?_
    refine ⟨cmp_fn l m (by omega) (by omega) dl dm, awp_ret ⟨.inl rfl, retD ?_⟩⟩
    have : cmpI (val l) (val m) = cmpZ (ival s l) (ival t m) := by
      simp only [cmpI, cmpZ]
      cases s <;> cases t <;> simp at ex ey <;> repeat (first | omega | rfl | split)
    rw [← this]; rfl

theorem same_fn (s t : Bool) (l m : List Nat) (hl1 : l.length ≤ 2 ^ 40) (hm1 : m.length ≤ 2 ^ 40) (dl : Dg l) (dm : Dg m) : Fn Try.prog 122 [.agg (ic s l), .agg (ic t m)] [] (.d (.bool (decide (ival s l = ival t m)))) [] := by
  refine fn0 (nt := 9) (res := [.tmp 4]) Try.func122 rfl (by decide) rfl rfl rfl rfl ?_
  intro C hP hnt hl
  refine awp_sx prog_ok hP hnt [] [] [] [2, 3] (by kernel_rfl) (G := fun K => K (St.mk [(2, V.ptr 0 0), (3, V.ptr 1 0)] [(0, some (Blk.mk [D.bool s, du l] true)), (1, some (Blk.mk [D.bool t, du m] true))] 3)) (fun K => by kernel_rfl) ?_
  refine awp_sx prog_ok hP hnt [] [.val (.d (.int .i64 (cmpZ (ival s l) (ival t m))))] [] [4] (by kernel_rfl) (G := fun K => Fn Try.prog 143 [V.agg [D.bool s, du l], V.agg [D.bool t, du m]] [] (V.d (D.int IntKind.i64 (cmpZ (ival s l) (ival t m)))) [] ∧ K (St.mk [(4, V.d (D.bool (cmpZ (ival s l) (ival t m) == (0 : Int))))] [(0, some (Blk.mk [D.bool s, du l] true)), (1, some (Blk.mk [D.bool t, du m] true))] 8)) (fun K => by kernel_rfl) ?_
  refine ⟨icmp_fn s t l m hl1 hm1 dl dm, awp_ret ⟨.inl rfl, retD ?_⟩⟩
  have : (cmpZ (ival s l) (ival t m) == 0) = decide (ival s l = ival t m) := by
    rw [Bool.eq_iff_iff]
    simp only [cmpZ]
    split
    · simp; omega
    · split <;> simp <;> omega
  rw [← this]; rfl

theorem imul_fn (s t : Bool) (l m : List Nat) (hl1 : l.length ≤ 2 ^ 40) (hm1 : m.length ≤ 2 ^ 40) (dl : Dg l) (dm : Dg m) : Fn Try.prog 123 [.agg (ic s l), .agg (ic t m)] [] (.agg (iz (ival s l * ival t m))) [] := by
  refine fn0 (nt := 16) (res := [.cell 4 46]) Try.func123 rfl (by decide) rfl rfl rfl rfl ?_
  intro C hP hnt hl
  refine awp_sx prog_ok hP hnt [] [] [] [2, 3, 4] (by kernel_rfl) (G := fun K => K (St.mk [(2, V.ptr 0 0), (3, V.ptr 1 0), (4, V.ptr 2 0)] [(0, some (Blk.mk [D.bool s, du l] true)), (1, some (Blk.mk [D.bool t, du m] true)), (2, some (Blk.mk [D.bool false, D.lst 0 []] true))] 3)) (fun K => by kernel_rfl) ?_
  refine awp_sx prog_ok hP hnt [] [.val (.d (du (dig (val l * val m)))), .val (.agg (iz (ival s l * ival t m)))] [] [4] (by kernel_rfl) (G := fun K => Fn Try.prog 186 [V.d (du l), V.d (du m)] [] (V.d (du (dig (val l * val m)))) [] ∧ Fn Try.prog 171 [V.d (D.bool !s == t), V.d (du (dig (val l * val m)))] [] (V.agg [D.bool (decide (ival s l * ival t m < (0 : Int))), du (dig (ival s l * ival t m).natAbs)]) [] ∧ 0 + (iz (ival s l * ival t m)).length ≤ [D.bool false, D.lst 0 []].length ∧ K (St.mk [(4, V.ptr 2 0)] [(0, some (Blk.mk [D.bool s, du l] true)), (1, some (Blk.mk [D.bool t, du m] true)), (2, some (Blk.mk [D.bool (decide (ival s l * ival t m < (0 : Int))), du (dig (ival s l * ival t m).natAbs)] true))] 15)) (fun K => by kernel_rfl) ?_
  refine ⟨mul_fn l m hl1 hm1 dl dm, made_fn' ?_, by simp [iz], awp_ret ⟨.inl rfl, retC (l := true) rfl rfl rfl rfl⟩⟩
  unfold ival sgn
  cases s <;> cases t <;> simp [Int.mul_neg, Int.neg_mul]

theorem iadd_fn (s t : Bool) (l m : List Nat) (hl1 : l.length ≤ 2 ^ 40) (hm1 : m.length ≤ 2 ^ 40) (dl : Dg l) (dm : Dg m) : Fn Try.prog 96 [.agg (ic s l), .agg (ic t m)] [] (.agg (iz (ival s l + ival t m))) [] := by
  refine fn0 (nt := 47) (res := [.cell 4 46]) Try.func96 rfl (by decide) rfl rfl rfl rfl ?_
  intro C hP hnt hl
  have ex : ival s l = sgn s (val l) := rfl
  have ey : ival t m = sgn t (val m) := rfl
  unfold sgn at ex ey
  refine awp_sx prog_ok hP hnt [] [] [] [2, 3, 4] (by kernel_rfl) (G := fun K => K (St.mk [(2, V.ptr 0 0), (3, V.ptr 1 0), (4, V.ptr 2 0)] [(0, some (Blk.mk [D.bool s, du l] true)), (1, some (Blk.mk [D.bool t, du m] true)), (2, some (Blk.mk [D.bool false, D.lst 0 []] true))] 3)) (fun K => by kernel_rfl) ?_
  refine awp_seq_k fun K hK => ?_
  refine awp_sx prog_ok hP hnt [] [] [] [2, 3, 4, 13] (by kernel_rfl) (G := fun K => K (St.mk [(2, V.ptr 0 0), (3, V.ptr 1 0), (4, V.ptr 2 0), (13, V.d (D.bool (s == t)))] [(0, some (Blk.mk [D.bool s, du l] true)), (1, some (Blk.mk [D.bool t, du m] true)), (2, some (Blk.mk [D.bool false, D.lst 0 []] true))] 8)) (fun K => by kernel_rfl) ?_
  refine awp_cond rfl (fun h => ?_) (fun h => awp_skip (hK _ ?_))
  · refine awp_sx prog_ok hP hnt [] [.val (.d (du (dig (val l + val m)))), .val (.agg (iz (ival s l + ival t m)))] [] [4] (by kernel_rfl) (G := fun K => Fn Try.prog 180 [V.d (du l), V.d (du m)] [] (V.d (du (dig (val l + val m)))) [] ∧ Fn Try.prog 171 [V.d (D.bool s), V.d (du (dig (val l + val m)))] [] (V.agg [D.bool (decide (ival s l + ival t m < (0 : Int))), du (dig (ival s l + ival t m).natAbs)]) [] ∧ 0 + (iz (ival s l + ival t m)).length ≤ [D.bool false, D.lst 0 []].length ∧ K (St.mk [(4, V.ptr 2 0)] [(0, some (Blk.mk [D.bool s, du l] true)), (1, some (Blk.mk [D.bool t, du m] true)), (2, some (Blk.mk [D.bool (decide (ival s l + ival t m < (0 : Int))), du (dig (ival s l + ival t m).natAbs)] true))] 17)) (fun K => by kernel_rfl) ?_
    refine ⟨add_fn l m hl1 hm1 dl dm, made_fn' ?_, by simp [iz], awp_ret ⟨.inl rfl, retC (l := true) rfl rfl rfl rfl⟩⟩
    unfold sgn
    cases s <;> cases t <;> simp at h ex ey <;> simp <;> omega
  have hst : s ≠ t := by simpa using h
  refine awp_seq_k fun K2 hK2 => ?_
  refine awp_sx prog_ok hP hnt [] [.val (.tup [.d (du (dig (val l - val m))), .d (.bool (decide (val m ≤ val l)))])] [] [2, 3, 4, 5, 6] (by kernel_rfl) (G := fun K => Fn Try.prog 181 [V.d (du l), V.d (du m)] [] (V.tup [V.d (du (dig (val l - val m))), V.d (D.bool (decide (val m ≤ val l)))]) [] ∧ K (St.mk [(2, V.ptr 0 0), (3, V.ptr 1 0), (4, V.ptr 2 0), (5, V.d (du (dig (val l - val m)))), (6, V.d (D.bool (decide (val m ≤ val l))))] [(0, some (Blk.mk [D.bool s, du l] true)), (1, some (Blk.mk [D.bool t, du m] true)), (2, some (Blk.mk [D.bool false, D.lst 0 []] true))] 18)) (fun K => by kernel_rfl) ?_
  refine ⟨sub_fn l m hl1 hm1 dl dm, ?_⟩
  refine awp_sx prog_ok hP hnt [] [] [] [2, 3, 4, 5, 30] (by kernel_rfl) (G := fun K => K (St.mk [(2, V.ptr 0 0), (3, V.ptr 1 0), (4, V.ptr 2 0), (5, V.d (du (dig (val l - val m)))), (30, V.d (D.bool (decide (val m ≤ val l))))] [(0, some (Blk.mk [D.bool s, du l] true)), (1, some (Blk.mk [D.bool t, du m] true)), (2, some (Blk.mk [D.bool false, D.lst 0 []] true))] 19)) (fun K => by kernel_rfl) ?_
  refine awp_cond rfl (fun h => ?_) (fun h => awp_skip (hK2 _ ?_))
  · simp at h
    refine awp_sx prog_ok hP hnt [] [.val (.agg (iz (ival s l + ival t m)))] [] [4] (by kernel_rfl) (G := fun K => Fn Try.prog 171 [V.d (D.bool s), V.d (du (dig (val l - val m)))] [] (V.agg [D.bool (decide (ival s l + ival t m < (0 : Int))), du (dig (ival s l + ival t m).natAbs)]) [] ∧ 0 + (iz (ival s l + ival t m)).length ≤ [D.bool false, D.lst 0 []].length ∧ K (St.mk [(4, V.ptr 2 0)] [(0, some (Blk.mk [D.bool s, du l] true)), (1, some (Blk.mk [D.bool t, du m] true)), (2, some (Blk.mk [D.bool (decide (ival s l + ival t m < (0 : Int))), du (dig (ival s l + ival t m).natAbs)] true))] 24)) (fun K => by kernel_rfl) ?_
    refine ⟨made_fn' ?_, by simp [iz], awp_ret ⟨.inl rfl, retC (l := true) rfl rfl rfl rfl⟩⟩
    unfold sgn
    cases s <;> cases t <;> simp at hst ex ey <;> simp <;> omega
  · simp at h
    refine awp_sx prog_ok hP hnt [] [.val (.tup [.d (du (dig (val m - val l))), .d (.bool (decide (val l ≤ val m)))])] [] [3, 4, 7] (by kernel_rfl) (G := fun K => Fn Try.prog 181 [V.d (du m), V.d (du l)] [] (V.tup [V.d (du (dig (val m - val l))), V.d (D.bool (decide (val l ≤ val m)))]) [] ∧ K (St.mk [(3, V.ptr 1 0), (4, V.ptr 2 0), (7, V.d (du (dig (val m - val l))))] [(0, some (Blk.mk [D.bool s, du l] true)), (1, some (Blk.mk [D.bool t, du m] true)), (2, some (Blk.mk [D.bool false, D.lst 0 []] true))] 29)) (fun K => by kernel_rfl) ?_
    refine ⟨sub_fn m l hm1 hl1 dm dl, ?_⟩
    refine awp_sx prog_ok hP hnt [] [.val (.agg (iz (ival s l + ival t m)))] [] [4] (by kernel_rfl) (G := fun K => Fn Try.prog 171 [V.d (D.bool t), V.d (du (dig (val m - val l)))] [] (V.agg [D.bool (decide (ival s l + ival t m < (0 : Int))), du (dig (ival s l + ival t m).natAbs)]) [] ∧ 0 + (iz (ival s l + ival t m)).length ≤ [D.bool false, D.lst 0 []].length ∧ K (St.mk [(4, V.ptr 2 0)] [(0, some (Blk.mk [D.bool s, du l] true)), (1, some (Blk.mk [D.bool t, du m] true)), (2, some (Blk.mk [D.bool (decide (ival s l + ival t m < (0 : Int))), du (dig (ival s l + ival t m).natAbs)] true))] 34)) (fun K => by kernel_rfl) ?_
    refine ⟨made_fn' ?_, by simp [iz], awp_ret ⟨.inl rfl, retC (l := true) rfl rfl rfl rfl⟩⟩
    unfold sgn
    cases s <;> cases t <;> simp at hst ex ey <;> simp <;> omega
end Go.Abs

set_option linter.unusedVariables false
set_option linter.unusedSimpArgs false
namespace Go.Abs
open Go Go.Proofs
set_option maxRecDepth 100000


theorem nnorm_fn (l : List Nat) (h : l.length ≤ 2 ^ 40) (hd : Dg l) : Fn Try.prog 230 [.d (du l)] [] (.d (du (dig (val l)))) [] := by
  refine fn0 (nt := 6) (res := [.tmp 2]) Try.func230 rfl (by decide) rfl rfl rfl rfl ?_
  intro C hP hnt hl
  have := dig_le hd
  refine awp_sx prog_ok hP hnt [] [] [] [0] (by kernel_rfl) (G := fun K => K (St.mk [(0, V.d (du l))] [] 1)) (fun K => by kernel_rfl) ?_
  refine awp_sx prog_ok hP hnt [] [.val (.d (du (dig (val l))))] [] [2] (by kernel_rfl) (G := fun K => Fn Try.prog 212 [V.d (du l)] [] (V.d (du (dig (val l)))) [] ∧ (u32s (dig (val l))).length = (dig (val l)).length * 1 ∧ (dig (val l)).length * 4 ≤ 2 ^ 47 ∧ K (St.mk [(2, V.own 3 0 (dig (val l)).length 1)] [(3, some (Blk.mk (u32s (dig (val l))) true))] 5)) (fun K => by kernel_rfl) ?_
  refine ⟨trim_fn l (by omega) hd, by simp, by omega, awp_ret ⟨.inl rfl, retOwn rfl rfl ?_⟩⟩
  rw [Nat.mul_one]
  exact own_du rfl

theorem from_fn (s : Bool) (l : List Nat) (h : l.length ≤ 2 ^ 40) (hd : Dg l) : Fn Try.prog 182 [.d (.bool s), .d (du l)] [] (.agg (iz (ival s l))) [] := by
  refine fn0 (nt := 9) (res := [.cell 4 46]) Try.func182 rfl (by decide) rfl rfl rfl rfl ?_
  intro C hP hnt hl
  refine awp_sx prog_ok hP hnt [] [] [] [0, 1, 4] (by kernel_rfl) (G := fun K => K (St.mk [(0, V.d (D.bool s)), (1, V.d (du l)), (4, V.ptr 0 0)] [(0, some (Blk.mk [D.bool false, D.lst 0 []] true))] 1)) (fun K => by kernel_rfl) ?_
  refine awp_sx prog_ok hP hnt [] [.val (.d (du (dig (val l)))), .val (.agg (iz (ival s l)))] [] [4] (by kernel_rfl) (G := fun K => Fn Try.prog 230 [V.d (du l)] [] (V.d (du (dig (val l)))) [] ∧ Fn Try.prog 171 [V.d (D.bool s), V.d (du (dig (val l)))] [] (V.agg [D.bool (decide (ival s l < (0 : Int))), du (dig (ival s l).natAbs)]) [] ∧ 0 + (iz (ival s l)).length ≤ [D.bool false, D.lst 0 []].length ∧ K (St.mk [(4, V.ptr 0 0)] [(0, some (Blk.mk [D.bool (decide (ival s l < (0 : Int))), du (dig (ival s l).natAbs)] true))] 6)) (fun K => by kernel_rfl) ?_
  refine ⟨nnorm_fn l h hd, made_fn' rfl, by simp [iz], awp_ret ⟨.inl rfl, retC (l := true) rfl rfl rfl rfl⟩⟩

theorem inorm_fn (s : Bool) (l : List Nat) (h : l.length ≤ 2 ^ 40) (hd : Dg l) : Fn Try.prog 165 [.agg (ic s l)] [] (.agg (iz (ival s l))) [] := by
  refine fn0 (nt := 8) (res := [.cell 2 46]) Try.func165 rfl (by decide) rfl rfl rfl rfl ?_
  intro C hP hnt hl
  refine awp_sx prog_ok hP hnt [] [] [] [1, 2] (by kernel_rfl) (G := fun K => K (St.mk [(1, V.ptr 0 0), (2, V.ptr 1 0)] [(0, some (Blk.mk [D.bool s, du l] true)), (1, some (Blk.mk [D.bool false, D.lst 0 []] true))] 2)) (fun K => by kernel_rfl) ?_
  refine awp_sx prog_ok hP hnt [] [.val (.agg (iz (ival s l)))] [] [2] (by kernel_rfl) (G := fun K => Fn Try.prog 182 [V.d (D.bool s), V.d (du l)] [] (V.agg [D.bool (decide (ival s l < (0 : Int))), du (dig (ival s l).natAbs)]) [] ∧ 0 + (iz (ival s l)).length ≤ [D.bool false, D.lst 0 []].length ∧ K (St.mk [(2, V.ptr 1 0)] [(0, some (Blk.mk [D.bool s, du l] true)), (1, some (Blk.mk [D.bool (decide (ival s l < (0 : Int))), du (dig (ival s l).natAbs)] true))] 8)) (fun K => by kernel_rfl) ?_
  refine ⟨from_fn s l h hd, by simp [iz], awp_ret ⟨.inl rfl, retC (l := true) rfl rfl rfl rfl⟩⟩

end Go.Abs

set_option linter.unusedVariables false
set_option linter.unusedSimpArgs false
namespace Go.Abs
open Go Go.Proofs

/-! ### Polynomials as they lie: signed digits, not trimmed -/
abbrev RI := Bool × List Nat
def rc (ps : List RI) : List D := ps.flatMap fun p => ic p.1 p.2
def rp (ps : List RI) : D := .lst ps.length (rc ps)
def rval (p : RI) : Int := ival p.1 p.2
def riz (z : Int) : RI := (decide (z < 0), dig z.natAbs)
def RIok (k : Nat) (p : RI) : Prop := Dg p.2 ∧ p.2.length ≤ k
abbrev Pok (k : Nat) (ps : List RI) : Prop := ∀ p ∈ ps, RIok k p
def co (ps : List RI) (k : Nat) : Int := rval (ps.getD k (false, []))

theorem rval_riz (z : Int) : rval (riz z) = z := ival_iz z
theorem riz_zero : riz 0 = (false, []) := by simp [riz, dig_zero]
theorem ic_riz (z : Int) : ic (riz z).1 (riz z).2 = iz z := rfl
@[simp] theorem rc_len (ps : List RI) : (rc ps).length = ps.length * 2 := by
  induction ps with
  | nil => rfl
  | cons p ps ih => simp only [rc, List.flatMap_cons, List.length_append] at ih ⊢; rw [ih]; simp [ic]; omega
theorem rc_cons (p : RI) (ps : List RI) : rc (p :: ps) = .bool p.1 :: du p.2 :: rc ps := rfl
theorem rc_drop (ps : List RI) (i : Nat) : (rc ps).drop (i * 2) = rc (ps.drop i) := by
  induction ps generalizing i with
  | nil => simp [rc]
  | cons p ps ih =>
    cases i with
    | zero => simp
    | succ i => rw [rc_cons, show (i + 1) * 2 = i * 2 + 1 + 1 by omega, List.drop_succ_cons, List.drop_succ_cons, ih, List.drop_succ_cons]
theorem rc_take (ps : List RI) (i : Nat) : (rc ps).take (i * 2) = rc (ps.take i) := by
  induction ps generalizing i with
  | nil => simp [rc]
  | cons p ps ih =>
    cases i with
    | zero => simp [rc]
    | succ i => rw [rc_cons, show (i + 1) * 2 = i * 2 + 1 + 1 by omega, List.take_succ_cons, List.take_succ_cons, ih, List.take_succ_cons, rc_cons]
theorem rc_at {ps : List RI} {i : Nat} {p : RI} (h : ps[i]? = some p) : (rc ps).drop (i * 2) = .bool p.1 :: du p.2 :: rc (ps.drop (i + 1)) := by
  obtain ⟨hi, he⟩ := List.getElem?_eq_some_iff.1 h
  rw [rc_drop, List.drop_eq_getElem_cons hi, he, rc_cons]
theorem rc_get0 {ps : List RI} {i : Nat} {p : RI} (h : ps[i]? = some p) : (rc ps)[i * 2]? = some (.bool p.1) := by
  have := congrArg (fun l => l[0]?) (rc_at h)
  simpa [List.getElem?_drop] using this
theorem rc_get1 {ps : List RI} {i : Nat} {p : RI} (h : ps[i]? = some p) : (rc ps)[i * 2 + 1]? = some (du p.2) := by
  have := congrArg (fun l => l[1]?) (rc_at h)
  simpa [List.getElem?_drop] using this
theorem setCells_rc (ps : List RI) (i : Nat) (q : RI) : setCells (rc ps) (i * 2) (ic q.1 q.2) = rc (ps.set i q) := by
  show ((rc ps).set (i * 2) (.bool q.1)).set (i * 2 + 1) (du q.2) = _
  induction ps generalizing i with
  | nil => simp [rc]
  | cons p ps ih =>
    cases i with
    | zero => simp [rc_cons]
    | succ i =>
      rw [rc_cons, show (i + 1) * 2 = i * 2 + 1 + 1 by omega]
      simp only [List.set_cons_succ, ih, rc_cons]
theorem zeros_rc (n : Nat) : zeros n [.bool false, .lst 0 []] = rc (List.replicate n (riz 0)) := by
  rw [riz_zero]
  unfold zeros
  induction n with
  | zero => rfl
  | succ n ih => rw [List.replicate_succ, List.flatten_cons, ih, List.replicate_succ, rc_cons]; rfl
theorem own_rp {ps : List RI} {n : Nat} (h : ps.length = n) : D.lst n (((rc ps).drop 0).take (n * 2)) = rp ps := by
  subst h; rw [List.drop_zero, List.take_of_length_le (by simp)]; rfl

/-- the number of coefficients without the zeros at the end -/
def zdeg (f : Nat → Int) : Nat → Nat
  | 0 => 0
  | n + 1 => if f n = 0 then zdeg f n else n + 1
theorem zdeg_le (f : Nat → Int) : ∀ n, zdeg f n ≤ n
  | 0 => Nat.le_refl _
  | n + 1 => by unfold zdeg; split
                · exact Nat.le_succ_of_le (zdeg_le f n)
                · exact Nat.le_refl _
theorem zdeg_zero {f : Nat → Int} {n : Nat} (h : 0 < n) (hz : f (n - 1) = 0) : zdeg f n = zdeg f (n - 1) := by
  obtain ⟨m, rfl⟩ : ∃ m, n = m + 1 := ⟨n - 1, by omega⟩
  simp only [Nat.add_sub_cancel] at hz ⊢
  rw [zdeg, if_pos hz]
theorem zdeg_stop {f : Nat → Int} {n : Nat} (h : 0 < n) (hz : f (n - 1) ≠ 0) : zdeg f n = n := by
  obtain ⟨m, rfl⟩ : ∃ m, n = m + 1 := ⟨n - 1, by omega⟩
  simp only [Nat.add_sub_cancel] at hz ⊢
  rw [zdeg, if_neg hz]
theorem zdeg_above {f : Nat → Int} {n k : Nat} (h : zdeg f n ≤ k) (hk : k < n) : f k = 0 := by
  induction n with
  | zero => omega
  | succ n ih =>
    unfold zdeg at h
    split at h
    · rename_i h0
      by_cases e : k = n
      · subst e; exact h0
      · exact ih h (by omega)
    · omega
/-- trimmed as it lies -/
def rtrim (ps : List RI) : List RI := ps.take (zdeg (co ps) ps.length)
theorem co_some {ps : List RI} {i : Nat} {p : RI} (h : ps[i]? = some p) : co ps i = rval p := by rw [co, List.getD_eq_getElem?_getD, h]; rfl
end Go.Abs
namespace Go.Abs
open Go Go.Proofs

/-- the coefficients of a function, as canonical whole numbers -/
def mz (F : Nat → Int) (n : Nat) : List RI := (List.range n).map fun k => riz (F k)
@[simp] theorem mz_len (F : Nat → Int) (n : Nat) : (mz F n).length = n := by simp [mz]
theorem mz_get {F : Nat → Int} {n k : Nat} (h : k < n) : (mz F n)[k]? = some (riz (F k)) := by simp [mz, h]
theorem mz_ext {F G : Nat → Int} {n : Nat} (h : ∀ k, k < n → F k = G k) : mz F n = mz G n := by
  apply List.ext_getElem?
  intro k
  by_cases hk : k < n
  · rw [mz_get hk, mz_get hk, h k hk]
  · rw [List.getElem?_eq_none (by simp; omega), List.getElem?_eq_none (by simp; omega)]
theorem mz_set {F G : Nat → Int} {n j : Nat} {z : Int} (hj : G j = z) (h : ∀ k, k ≠ j → k < n → F k = G k) : (mz F n).set j (riz z) = mz G n := by
  apply List.ext_getElem?
  intro k
  by_cases hk : k < n
  · rw [mz_get hk, List.getElem?_set]
    by_cases e : j = k
    · subst e; rw [if_pos rfl, if_pos (by simpa using hk), hj]
    · rw [if_neg e, mz_get hk, h k (Ne.symm e) hk]
  · rw [List.getElem?_eq_none (by simp; omega), List.getElem?_eq_none (by simp; omega)]
theorem mz_zero (n : Nat) : List.replicate n (riz 0) = mz (fun _ => 0) n := by
  apply List.ext_getElem?
  intro k
  by_cases hk : k < n
  · rw [mz_get hk]; simp [hk]
  · rw [List.getElem?_eq_none (by simp; omega), List.getElem?_eq_none (by simp; omega)]
theorem mz_take {F : Nat → Int} {n m : Nat} (h : m ≤ n) : (mz F n).take m = mz F m := by
  apply List.ext_getElem?
  intro k
  rw [List.getElem?_take]
  by_cases hk : k < m
  · rw [if_pos hk, mz_get (by omega), mz_get hk]
  · rw [if_neg hk, List.getElem?_eq_none (by simp; omega)]
theorem co_mz {F : Nat → Int} {n k : Nat} (h : k < n) : co (mz F n) k = F k := by rw [co_some (mz_get h), rval_riz]
theorem co_beyond {ps : List RI} {k : Nat} (h : ps.length ≤ k) : co ps k = 0 := by
  rw [co, List.getD_eq_getElem?_getD, List.getElem?_eq_none h]; rfl
theorem zdeg_ext {F G : Nat → Int} : ∀ {n : Nat}, (∀ k, k < n → F k = G k) → zdeg F n = zdeg G n
  | 0, _ => rfl
  | n + 1, h => by
    unfold zdeg
    rw [h n (by omega), zdeg_ext (n := n) (fun k hk => h k (by omega))]
/-- trimmed and canonical -/
def can (F : Nat → Int) (n : Nat) : List RI := mz F (zdeg F n)
theorem rtrim_mz (F : Nat → Int) (n : Nat) : rtrim (mz F n) = can F n := by
  unfold rtrim can
  rw [mz_len, zdeg_ext (G := F) (fun k hk => co_mz hk), mz_take (zdeg_le F n)]
theorem can_ext {F G : Nat → Int} {n : Nat} (h : ∀ k, k < n → F k = G k) : can F n = can G n := by
  unfold can
  rw [zdeg_ext h]
  exact mz_ext fun k hk => h k (Nat.lt_of_lt_of_le hk (zdeg_le G n))
theorem zdeg_more {F : Nat → Int} {n : Nat} : ∀ {m : Nat}, n ≤ m → (∀ k, n ≤ k → k < m → F k = 0) → zdeg F m = zdeg F n
  | 0, h, _ => by rw [Nat.le_zero.1 h]
  | m + 1, h, hz => by
    by_cases e : n = m + 1
    · rw [e]
    · rw [zdeg, if_pos (hz m (by omega) (by omega)), zdeg_more (m := m) (by omega) (fun k h1 h2 => hz k h1 (by omega))]
theorem can_more {F : Nat → Int} {n m : Nat} (h : n ≤ m) (hz : ∀ k, n ≤ k → k < m → F k = 0) : can F m = can F n := by
  unfold can; rw [zdeg_more h hz]
theorem co_rtrim (ps : List RI) (k : Nat) : co (rtrim ps) k = co ps k := by
  unfold rtrim
  by_cases h : k < zdeg (co ps) ps.length
  · rw [co, co, List.getD_eq_getElem?_getD, List.getD_eq_getElem?_getD, List.getElem?_take, if_pos h]
  · have hle := zdeg_le (co ps) ps.length
    rw [co_beyond (by rw [List.length_take]; omega)]
    by_cases h2 : k < ps.length
    · exact (zdeg_above (by omega) h2).symm
    · exact (co_beyond (by omega)).symm
theorem rtrim_len (ps : List RI) : (rtrim ps).length = zdeg (co ps) ps.length := by
  unfold rtrim; rw [List.length_take, Nat.min_eq_left (zdeg_le _ _)]
theorem rtrim_ok {k : Nat} {ps : List RI} (h : Pok k ps) : Pok k (rtrim ps) := fun p hp => h p (List.mem_of_mem_take hp)

/-! ### The product -/
def mulC (f g : Nat → Int) : Nat → Nat → Int
  | 0, _ => 0
  | i + 1, k => mulC f g i k + (if i ≤ k then f i * g (k - i) else 0)
theorem mulC_abs {f g : Nat → Int} {M : Nat} (hf : ∀ a, (f a).natAbs ≤ M) (hg : ∀ a, (g a).natAbs ≤ M) (i k : Nat) : (mulC f g i k).natAbs ≤ i * (M * M) := by
  induction i with
  | zero => simp [mulC]
  | succ i ih =>
    simp only [mulC]
    split
    · have h1 : (f i * g (k - i)).natAbs ≤ M * M := by rw [Int.natAbs_mul]; exact Nat.mul_le_mul (hf _) (hg _)
      have := Int.natAbs_add_le (mulC f g i k) (f i * g (k - i))
      rw [Nat.add_mul, Nat.one_mul]; omega
    · rw [Int.add_zero, Nat.add_mul]; omega
theorem mulC_skip {f g : Nat → Int} {i : Nat} (h : f i = 0) (k : Nat) : mulC f g (i + 1) k = mulC f g i k := by
  simp [mulC, h]
theorem mulC_low {f g : Nat → Int} {i k : Nat} (h : k < i) : mulC f g (i + 1) k = mulC f g i k := by
  simp only [mulC]; rw [if_neg (by omega), Int.add_zero]
theorem mulC_high {f g : Nat → Int} {i k m : Nat} (hg : ∀ a, m ≤ a → g a = 0) (h : i + m ≤ k) : mulC f g (i + 1) k = mulC f g i k := by
  simp only [mulC]; rw [if_pos (by omega), hg _ (by omega), Int.mul_zero, Int.add_zero]
/-- in the midst of a row -/
def mulM (f g : Nat → Int) (i j k : Nat) : Int := if i ≤ k ∧ k < i + j then mulC f g (i + 1) k else mulC f g i k
theorem mulM_abs {f g : Nat → Int} {M : Nat} (hf : ∀ a, (f a).natAbs ≤ M) (hg : ∀ a, (g a).natAbs ≤ M) (i j k : Nat) : (mulM f g i j k).natAbs ≤ (i + 1) * (M * M) := by
  unfold mulM
  split
  · exact mulC_abs hf hg _ _
  · exact Nat.le_trans (mulC_abs hf hg _ _) (Nat.mul_le_mul_right _ (by omega))
theorem co_abs {K : Nat} {ps : List RI} (h : Pok K ps) (k : Nat) : (co ps k).natAbs < 4294967296 ^ K := by
  unfold co
  rw [List.getD_eq_getElem?_getD]
  cases e : ps[k]? with
  | none => simp [rval, ival, sgn, val]; exact Nat.pow_pos (by omega)
  | some p =>
    obtain ⟨h1, h2⟩ := h p (List.mem_of_getElem? e)
    have := val_lt h1
    show (ival p.1 p.2).natAbs < _
    unfold ival; rw [sgn_abs]
    exact Nat.lt_of_lt_of_le this (Nat.pow_le_pow_right (by omega) h2)
theorem riz_ok {z : Int} {K : Nat} (h : z.natAbs < 4294967296 ^ K) : RIok K (riz z) := ⟨dig_lt _, dig_len h⟩
theorem mul_bound {i K M : Nat} (hi : i < 4294967296) (h1 : M ≤ 4294967296 ^ K) : i * (M * M) < 4294967296 ^ (K + K + 1) := by
  have hp : 0 < 4294967296 ^ K := Nat.pow_pos (by omega)
  rw [Nat.pow_succ, Nat.pow_add]
  generalize 4294967296 ^ K = X at *
  have h2 : i * (M * M) ≤ i * (X * X) := Nat.mul_le_mul_left i (Nat.mul_le_mul h1 h1)
  have h3 : i * (X * X) < 4294967296 * (X * X) := Nat.mul_lt_mul_of_pos_right hi (Nat.mul_pos hp hp)
  rw [Nat.mul_comm 4294967296] at h3
  omega
theorem mulC_van {f g : Nat → Int} {m k : Nat} (hg : ∀ a, m ≤ a → g a = 0) : ∀ {n : Nat}, n + m ≤ k + 1 → mulC f g n k = 0
  | 0, _ => rfl
  | n + 1, h => by
    simp only [mulC]
    rw [mulC_van hg (by omega)]
    split
    · rw [hg _ (by omega)]; simp
    · rfl
theorem mulC_g0 {f g : Nat → Int} (hg : ∀ a, g a = 0) (n k : Nat) : mulC f g n k = 0 := by
  induction n with
  | zero => rfl
  | succ n ih => simp only [mulC]; rw [ih]; split <;> simp [hg]
theorem mulC_more {f g : Nat → Int} {m : Nat} (hf : ∀ a, m ≤ a → f a = 0) (k : Nat) : ∀ {n : Nat}, m ≤ n → mulC f g n k = mulC f g m k
  | 0, h => by rw [Nat.le_zero.1 h]
  | n + 1, h => by
    by_cases e : m = n + 1
    · rw [e]
    · simp only [mulC]
      rw [mulC_more hf k (n := n) (by omega), hf n (by omega)]; simp
theorem can_none {F : Nat → Int} {n : Nat} (h : ∀ k, k < n → F k = 0) : can F n = [] := by
  rw [can_more (Nat.zero_le n) (fun k _ hk => h k hk)]; rfl
theorem can_mul {f g : Nat → Int} {a b n m : Nat} (hf : ∀ k, a ≤ k → f k = 0) (hg : ∀ k, b ≤ k → g k = 0) (ha : a ≤ n) (hb : b ≤ m) : can (mulC f g n) (n + m) = can (mulC f g a) (a + b - 1) := by
  rw [can_ext (G := mulC f g a) (fun k _ => mulC_more hf k ha)]
  exact can_more (by omega) (fun k h _ => mulC_van hg (by omega))
end Go.Abs

set_option linter.unusedVariables false
set_option linter.unusedSimpArgs false
namespace Go.Abs
open Go Go.Proofs

theorem u32s_fm (l : List Nat) : u32s l = fm (fun d : Nat => [D.int .u32 d]) l := by
  induction l with
  | nil => rfl
  | cons d l ih => rw [fm_cons, ← ih]; rfl
theorem rd_u32 : Rd Try.prog 62 (fun d : Nat => [D.int .u32 d]) (fun d => d < 4294967296) :=
  (Rd.int (k := .u32) desc62).map fun n h => by
    have h1 : 0 ≤ n ∧ n ≤ 4294967295 := h
    exact ⟨n.toNat, by omega, by rw [show ((n.toNat : Nat) : Int) = n by omega]⟩
theorem rd_digs (t : TypeId) (ht : Try.prog.underlying t = some (.slice 62)) : Rd Try.prog t (fun l : List Nat => [du l]) Dg :=
  (Rd.slice (sz := 1) ht (by kernel_rfl) (by decide) (fun _ => rfl) rd_u32).map fun l h => ⟨l, h.2, by rw [du, u32s_fm]⟩
theorem rd_int : Rd Try.prog 46 (fun p : RI => ic p.1 p.2) (fun p => Dg p.2) :=
  (Rd.pair (t0 := 4) (t1 := 44) (s0 := 1) (s1 := 1) (by kernel_rfl) (by kernel_rfl) (by kernel_rfl) (by kernel_rfl) (fun _ => rfl) (fun _ => rfl) (Rd.bool desc4) (rd_digs 44 desc44)).map fun p h => ⟨p, h.2, rfl⟩
theorem rd_poly : Rd Try.prog 23 (fun ps : List RI => [rp ps]) (fun ps => ∀ p ∈ ps, Dg p.2) :=
  (Rd.slice (sz := 2) desc23 (by kernel_rfl) (by decide) (fun _ => rfl) rd_int).map fun l h => ⟨l, h.2, rfl⟩
theorem rd_rat : Rd Try.prog 78 (fun q : RI × List Nat => ic q.1.1 q.1.2 ++ [du q.2]) (fun q => Dg q.1.2 ∧ Dg q.2) :=
  (Rd.pair (t0 := 46) (t1 := 44) (s0 := 2) (s1 := 1) (by kernel_rfl) (by kernel_rfl) (by kernel_rfl) (by kernel_rfl) (fun _ => rfl) (fun _ => rfl) rd_int (rd_digs 44 desc44)).map fun p h => ⟨p, h, rfl⟩
end Go.Abs
namespace Go.Abs
open Go Go.Proofs
theorem struct_ty {t : TypeId} (h : (fieldsOf Try.prog t).isSome = true) : ∃ fs, Try.prog.underlying t = some (.struct fs) := by
  unfold fieldsOf at h
  split at h
  · rename_i fs hfs; exact ⟨fs, hfs⟩
  · cases h
end Go.Abs

set_option maxRecDepth 100000
namespace Go.Abs
open Go Go.Proofs
def ioChars : List Char := [Char.ofNat 104, Char.ofNat 97, Char.ofNat 114, Char.ofNat 110, Char.ofNat 101, Char.ofNat 115, Char.ofNat 115, Char.ofNat 32, Char.ofNat 56, Char.ofNat 49, Char.ofNat 100, Char.ofNat 100, Char.ofNat 98, Char.ofNat 50, Char.ofNat 101, Char.ofNat 51, Char.ofNat 101, Char.ofNat 102, Char.ofNat 54, Char.ofNat 50, Char.ofNat 54, Char.ofNat 55, Char.ofNat 51, Char.ofNat 49, Char.ofNat 98, Char.ofNat 55, Char.ofNat 52, Char.ofNat 99, Char.ofNat 53, Char.ofNat 53, Char.ofNat 55, Char.ofNat 98, Char.ofNat 56, Char.ofNat 54, Char.ofNat 48, Char.ofNat 53, Char.ofNat 100, Char.ofNat 56, Char.ofNat 100, Char.ofNat 52, Char.ofNat 50, Char.ofNat 100, Char.ofNat 55, Char.ofNat 55, Char.ofNat 100, Char.ofNat 101, Char.ofNat 49, Char.ofNat 48, Char.ofNat 54, Char.ofNat 50, Char.ofNat 52, Char.ofNat 54, Char.ofNat 101, Char.ofNat 53, Char.ofNat 52, Char.ofNat 51, Char.ofNat 56, Char.ofNat 97, Char.ofNat 57, Char.ofNat 101, Char.ofNat 53, Char.ofNat 102, Char.ofNat 99, Char.ofNat 53, Char.ofNat 102, Char.ofNat 53, Char.ofNat 52, Char.ofNat 53, Char.ofNat 99, Char.ofNat 50, Char.ofNat 99, Char.ofNat 99, Char.ofNat 32, Char.ofNat 99, Char.ofNat 117, Char.ofNat 116, Char.ofNat 32, Char.ofNat 97, Char.ofNat 116, Char.ofNat 32, Char.ofNat 99, Char.ofNat 121, Char.ofNat 108, Char.ofNat 105, Char.ofNat 110, Char.ofNat 100, Char.ofNat 101, Char.ofNat 114, Char.ofNat 47, Char.ofNat 99, Char.ofNat 121, Char.ofNat 108, Char.ofNat 105, Char.ofNat 110, Char.ofNat 100, Char.ofNat 101, Char.ofNat 114, Char.ofNat 108, Char.ofNat 97, Char.ofNat 119, Char.ofNat 48, Char.ofNat 56, Char.ofNat 46, Char.ofNat 85, Char.ofNat 110, Char.ofNat 105, Char.ofNat 112, Char.ofNat 111, Char.ofNat 108, Char.ofNat 121, Char.ofNat 77, Char.ofNat 117, Char.ofNat 108, Char.ofNat 115, Char.ofNat 32, Char.ofNat 99, Char.ofNat 121, Char.ofNat 108, Char.ofNat 105, Char.ofNat 110, Char.ofNat 100, Char.ofNat 101, Char.ofNat 114, Char.ofNat 47, Char.ofNat 99, Char.ofNat 121, Char.ofNat 108, Char.ofNat 105, Char.ofNat 110, Char.ofNat 100, Char.ofNat 101, Char.ofNat 114, Char.ofNat 108, Char.ofNat 97, Char.ofNat 119, Char.ofNat 48, Char.ofNat 56, Char.ofNat 46, Char.ofNat 85, Char.ofNat 110, Char.ofNat 105, Char.ofNat 112, Char.ofNat 111, Char.ofNat 108, Char.ofNat 121, Char.ofNat 82, Char.ofNat 105, Char.ofNat 110, Char.ofNat 103, Char.ofNat 32, Char.ofNat 99, Char.ofNat 121, Char.ofNat 108, Char.ofNat 105, Char.ofNat 110, Char.ofNat 100, Char.ofNat 101, Char.ofNat 114, Char.ofNat 47, Char.ofNat 99, Char.ofNat 121, Char.ofNat 108, Char.ofNat 105, Char.ofNat 110, Char.ofNat 100, Char.ofNat 101, Char.ofNat 114, Char.ofNat 108, Char.ofNat 97, Char.ofNat 119, Char.ofNat 48, Char.ofNat 56, Char.ofNat 46, Char.ofNat 85, Char.ofNat 110, Char.ofNat 105, Char.ofNat 112, Char.ofNat 111, Char.ofNat 108, Char.ofNat 121, Char.ofNat 67, Char.ofNat 104, Char.ofNat 97, Char.ofNat 110, Char.ofNat 103, Char.ofNat 101, Char.ofNat 115, Char.ofNat 32, Char.ofNat 99, Char.ofNat 121, Char.ofNat 108, Char.ofNat 105, Char.ofNat 110, Char.ofNat 100, Char.ofNat 101, Char.ofNat 114, Char.ofNat 47, Char.ofNat 99, Char.ofNat 121, Char.ofNat 108, Char.ofNat 105, Char.ofNat 110, Char.ofNat 100, Char.ofNat 101, Char.ofNat 114, Char.ofNat 108, Char.ofNat 97, Char.ofNat 119, Char.ofNat 48, Char.ofNat 56, Char.ofNat 46, Char.ofNat 85, Char.ofNat 110, Char.ofNat 105, Char.ofNat 112, Char.ofNat 111, Char.ofNat 108, Char.ofNat 121, Char.ofNat 65, Char.ofNat 100, Char.ofNat 100, Char.ofNat 115, Char.ofNat 32, Char.ofNat 99, Char.ofNat 121, Char.ofNat 108, Char.ofNat 105, Char.ofNat 110, Char.ofNat 100, Char.ofNat 101, Char.ofNat 114, Char.ofNat 47, Char.ofNat 99, Char.ofNat 121, Char.ofNat 108, Char.ofNat 105, Char.ofNat 110, Char.ofNat 100, Char.ofNat 101, Char.ofNat 114, Char.ofNat 108, Char.ofNat 97, Char.ofNat 119, Char.ofNat 48, Char.ofNat 56, Char.ofNat 46, Char.ofNat 85, Char.ofNat 110, Char.ofNat 105, Char.ofNat 112, Char.ofNat 111, Char.ofNat 108, Char.ofNat 121, Char.ofNat 75, Char.ofNat 101, Char.ofNat 101, Char.ofNat 112, Char.ofNat 115, Char.ofNat 32, Char.ofNat 99, Char.ofNat 121, Char.ofNat 108, Char.ofNat 105, Char.ofNat 110, Char.ofNat 100, Char.ofNat 101, Char.ofNat 114, Char.ofNat 47, Char.ofNat 99, Char.ofNat 121, Char.ofNat 108, Char.ofNat 105, Char.ofNat 110, Char.ofNat 100, Char.ofNat 101, Char.ofNat 114, Char.ofNat 108, Char.ofNat 97, Char.ofNat 119, Char.ofNat 49, Char.ofNat 52, Char.ofNat 46, Char.ofNat 82, Char.ofNat 111, Char.ofNat 111, Char.ofNat 116, Char.ofNat 98, Char.ofNat 111, Char.ofNat 117, Char.ofNat 110, Char.ofNat 100, Char.ofNat 68, Char.ofNat 101, Char.ofNat 115, Char.ofNat 99, Char.ofNat 97, Char.ofNat 114, Char.ofNat 116, Char.ofNat 101, Char.ofNat 115, Char.ofNat 32, Char.ofNat 99, Char.ofNat 121, Char.ofNat 108, Char.ofNat 105, Char.ofNat 110, Char.ofNat 100, Char.ofNat 101, Char.ofNat 114, Char.ofNat 47, Char.ofNat 99, Char.ofNat 121, Char.ofNat 108, Char.ofNat 105, Char.ofNat 110, Char.ofNat 100, Char.ofNat 101, Char.ofNat 114, Char.ofNat 108, Char.ofNat 97, Char.ofNat 119, Char.ofNat 49, Char.ofNat 52, Char.ofNat 46, Char.ofNat 82, Char.ofNat 111, Char.ofNat 111, Char.ofNat 116, Char.ofNat 98, Char.ofNat 111, Char.ofNat 117, Char.ofNat 110, Char.ofNat 100, Char.ofNat 86, Char.ofNat 97, Char.ofNat 114, Char.ofNat 105, Char.ofNat 97, Char.ofNat 116, Char.ofNat 105, Char.ofNat 111, Char.ofNat 110, Char.ofNat 115, Char.ofNat 32, Char.ofNat 99, Char.ofNat 121, Char.ofNat 108, Char.ofNat 105, Char.ofNat 110, Char.ofNat 100, Char.ofNat 101, Char.ofNat 114, Char.ofNat 47, Char.ofNat 99, Char.ofNat 121, Char.ofNat 108, Char.ofNat 105, Char.ofNat 110, Char.ofNat 100, Char.ofNat 101, Char.ofNat 114, Char.ofNat 108, Char.ofNat 97, Char.ofNat 119, Char.ofNat 49, Char.ofNat 52, Char.ofNat 46, Char.ofNat 82, Char.ofNat 111, Char.ofNat 111, Char.ofNat 116, Char.ofNat 98, Char.ofNat 111, Char.ofNat 117, Char.ofNat 110, Char.ofNat 100, Char.ofNat 76, Char.ofNat 97, Char.ofNat 103, Char.ofNat 117, Char.ofNat 101, Char.ofNat 114, Char.ofNat 114, Char.ofNat 101, Char.ofNat 32, Char.ofNat 99, Char.ofNat 121, Char.ofNat 108, Char.ofNat 105, Char.ofNat 110, Char.ofNat 100, Char.ofNat 101, Char.ofNat 114, Char.ofNat 47, Char.ofNat 99, Char.ofNat 121, Char.ofNat 108, Char.ofNat 105, Char.ofNat 110, Char.ofNat 100, Char.ofNat 101, Char.ofNat 114, Char.ofNat 108, Char.ofNat 97, Char.ofNat 119, Char.ofNat 48, Char.ofNat 56, Char.ofNat 46, Char.ofNat 85, Char.ofNat 110, Char.ofNat 105, Char.ofNat 112, Char.ofNat 111, Char.ofNat 108, Char.ofNat 121, Char.ofNat 69, Char.ofNat 118, Char.ofNat 97, Char.ofNat 108, Char.ofNat 115, Char.ofNat 32, Char.ofNat 99, Char.ofNat 121, Char.ofNat 108, Char.ofNat 105, Char.ofNat 110, Char.ofNat 100, Char.ofNat 101, Char.ofNat 114, Char.ofNat 47, Char.ofNat 99, Char.ofNat 121, Char.ofNat 108, Char.ofNat 105, Char.ofNat 110, Char.ofNat 100, Char.ofNat 101, Char.ofNat 114, Char.ofNat 108, Char.ofNat 97, Char.ofNat 119, Char.ofNat 48, Char.ofNat 56, Char.ofNat 46, Char.ofNat 85, Char.ofNat 110, Char.ofNat 105, Char.ofNat 112, Char.ofNat 111, Char.ofNat 108, Char.ofNat 121, Char.ofNat 69, Char.ofNat 110, Char.ofNat 100, Char.ofNat 115, Char.ofNat 32, Char.ofNat 99, Char.ofNat 121, Char.ofNat 108, Char.ofNat 105, Char.ofNat 110, Char.ofNat 100, Char.ofNat 101, Char.ofNat 114, Char.ofNat 47, Char.ofNat 99, Char.ofNat 121, Char.ofNat 108, Char.ofNat 105, Char.ofNat 110, Char.ofNat 100, Char.ofNat 101, Char.ofNat 114, Char.ofNat 108, Char.ofNat 97, Char.ofNat 119, Char.ofNat 48, Char.ofNat 56, Char.ofNat 46, Char.ofNat 85, Char.ofNat 110, Char.ofNat 105, Char.ofNat 112, Char.ofNat 111, Char.ofNat 108, Char.ofNat 121, Char.ofNat 73, Char.ofNat 110, Char.ofNat 118, Char.ofNat 101, Char.ofNat 114, Char.ofNat 115, Char.ofNat 101, Char.ofNat 32, Char.ofNat 99, Char.ofNat 121, Char.ofNat 108, Char.ofNat 105, Char.ofNat 110, Char.ofNat 100, Char.ofNat 101, Char.ofNat 114, Char.ofNat 47, Char.ofNat 99, Char.ofNat 121, Char.ofNat 108, Char.ofNat 105, Char.ofNat 110, Char.ofNat 100, Char.ofNat 101, Char.ofNat 114, Char.ofNat 108, Char.ofNat 97, Char.ofNat 119, Char.ofNat 49, Char.ofNat 52, Char.ofNat 46, Char.ofNat 82, Char.ofNat 111, Char.ofNat 111, Char.ofNat 116, Char.ofNat 98, Char.ofNat 111, Char.ofNat 117, Char.ofNat 110, Char.ofNat 100, Char.ofNat 67, Char.ofNat 97, Char.ofNat 117, Char.ofNat 99, Char.ofNat 104, Char.ofNat 121, Char.ofNat 32, Char.ofNat 99, Char.ofNat 121, Char.ofNat 108, Char.ofNat 105, Char.ofNat 110, Char.ofNat 100, Char.ofNat 101, Char.ofNat 114, Char.ofNat 47, Char.ofNat 99, Char.ofNat 121, Char.ofNat 108, Char.ofNat 105, Char.ofNat 110, Char.ofNat 100, Char.ofNat 101, Char.ofNat 114, Char.ofNat 108, Char.ofNat 97, Char.ofNat 119, Char.ofNat 48, Char.ofNat 57, Char.ofNat 46, Char.ofNat 85, Char.ofNat 110, Char.ofNat 105, Char.ofNat 100, Char.ofNat 105, Char.ofNat 118, Char.ofNat 80, Char.ofNat 115, Char.ofNat 101, Char.ofNat 117, Char.ofNat 100, Char.ofNat 111, Char.ofNat 32, Char.ofNat 99, Char.ofNat 121, Char.ofNat 108, Char.ofNat 105, Char.ofNat 110, Char.ofNat 100, Char.ofNat 101, Char.ofNat 114, Char.ofNat 47, Char.ofNat 99, Char.ofNat 121, Char.ofNat 108, Char.ofNat 105, Char.ofNat 110, Char.ofNat 100, Char.ofNat 101, Char.ofNat 114, Char.ofNat 108, Char.ofNat 97, Char.ofNat 119, Char.ofNat 48, Char.ofNat 56, Char.ofNat 46, Char.ofNat 85, Char.ofNat 110, Char.ofNat 105, Char.ofNat 112, Char.ofNat 111, Char.ofNat 108, Char.ofNat 121, Char.ofNat 72, Char.ofNat 111, Char.ofNat 109, Char.ofNat 111, Char.ofNat 109, Char.ofNat 111, Char.ofNat 114, Char.ofNat 112, Char.ofNat 104, Char.ofNat 105, Char.ofNat 115, Char.ofNat 109, Char.ofNat 32, Char.ofNat 99, Char.ofNat 121, Char.ofNat 108, Char.ofNat 105, Char.ofNat 110, Char.ofNat 100, Char.ofNat 101, Char.ofNat 114, Char.ofNat 47, Char.ofNat 99, Char.ofNat 121, Char.ofNat 108, Char.ofNat 105, Char.ofNat 110, Char.ofNat 100, Char.ofNat 101, Char.ofNat 114, Char.ofNat 108, Char.ofNat 97, Char.ofNat 119, Char.ofNat 48, Char.ofNat 57, Char.ofNat 46, Char.ofNat 85, Char.ofNat 110, Char.ofNat 105, Char.ofNat 100, Char.ofNat 105, Char.ofNat 118, Char.ofNat 83, Char.ofNat 117, Char.ofNat 98, Char.ofNat 114, Char.ofNat 101, Char.ofNat 115, Char.ofNat 117, Char.ofNat 108, Char.ofNat 116, Char.ofNat 97, Char.ofNat 110, Char.ofNat 116, Char.ofNat 115, Char.ofNat 32, Char.ofNat 99, Char.ofNat 121, Char.ofNat 108, Char.ofNat 105, Char.ofNat 110, Char.ofNat 100, Char.ofNat 101, Char.ofNat 114, Char.ofNat 47, Char.ofNat 99, Char.ofNat 121, Char.ofNat 108, Char.ofNat 105, Char.ofNat 110, Char.ofNat 100, Char.ofNat 101, Char.ofNat 114, Char.ofNat 108, Char.ofNat 97, Char.ofNat 119, Char.ofNat 48, Char.ofNat 57, Char.ofNat 46, Char.ofNat 85, Char.ofNat 110, Char.ofNat 105, Char.ofNat 100, Char.ofNat 105, Char.ofNat 118, Char.ofNat 67, Char.ofNat 111, Char.ofNat 110, Char.ofNat 116, Char.ofNat 101, Char.ofNat 110, Char.ofNat 116, Char.ofNat 32, Char.ofNat 99, Char.ofNat 121, Char.ofNat 108, Char.ofNat 105, Char.ofNat 110, Char.ofNat 100, Char.ofNat 101, Char.ofNat 114, Char.ofNat 47, Char.ofNat 99, Char.ofNat 121, Char.ofNat 108, Char.ofNat 105, Char.ofNat 110, Char.ofNat 100, Char.ofNat 101, Char.ofNat 114, Char.ofNat 108, Char.ofNat 97, Char.ofNat 119, Char.ofNat 48, Char.ofNat 57, Char.ofNat 46, Char.ofNat 85, Char.ofNat 110, Char.ofNat 105, Char.ofNat 100, Char.ofNat 105, Char.ofNat 118, Char.ofNat 76, Char.ofNat 97, Char.ofNat 115, Char.ofNat 116, Char.ofNat 32, Char.ofNat 99, Char.ofNat 121, Char.ofNat 108, Char.ofNat 105, Char.ofNat 110, Char.ofNat 100, Char.ofNat 101, Char.ofNat 114, Char.ofNat 47, Char.ofNat 99, Char.ofNat 121, Char.ofNat 108, Char.ofNat 105, Char.ofNat 110, Char.ofNat 100, Char.ofNat 101, Char.ofNat 114, Char.ofNat 108, Char.ofNat 97, Char.ofNat 119, Char.ofNat 48, Char.ofNat 57, Char.ofNat 46, Char.ofNat 85, Char.ofNat 110, Char.ofNat 105, Char.ofNat 100, Char.ofNat 105, Char.ofNat 118, Char.ofNat 70, Char.ofNat 97, Char.ofNat 99, Char.ofNat 116, Char.ofNat 111, Char.ofNat 114, Char.ofNat 115, Char.ofNat 32, Char.ofNat 99, Char.ofNat 121, Char.ofNat 108, Char.ofNat 105, Char.ofNat 110, Char.ofNat 100, Char.ofNat 101, Char.ofNat 114, Char.ofNat 47, Char.ofNat 99, Char.ofNat 121, Char.ofNat 108, Char.ofNat 105, Char.ofNat 110, Char.ofNat 100, Char.ofNat 101, Char.ofNat 114, Char.ofNat 108, Char.ofNat 97, Char.ofNat 119, Char.ofNat 48, Char.ofNat 57, Char.ofNat 46, Char.ofNat 85, Char.ofNat 110, Char.ofNat 105, Char.ofNat 100, Char.ofNat 105, Char.ofNat 118, Char.ofNat 73, Char.ofNat 100, Char.ofNat 101, Char.ofNat 110, Char.ofNat 116, Char.ofNat 105, Char.ofNat 116, Char.ofNat 121, Char.ofNat 32, Char.ofNat 99, Char.ofNat 121, Char.ofNat 108, Char.ofNat 105, Char.ofNat 110, Char.ofNat 100, Char.ofNat 101, Char.ofNat 114, Char.ofNat 47, Char.ofNat 99, Char.ofNat 121, Char.ofNat 108, Char.ofNat 105, Char.ofNat 110, Char.ofNat 100, Char.ofNat 101, Char.ofNat 114, Char.ofNat 108, Char.ofNat 97, Char.ofNat 119, Char.ofNat 48, Char.ofNat 57, Char.ofNat 46, Char.ofNat 85, Char.ofNat 110, Char.ofNat 105, Char.ofNat 100, Char.ofNat 105, Char.ofNat 118, Char.ofNat 67, Char.ofNat 111, Char.ofNat 109, Char.ofNat 109, Char.ofNat 111, Char.ofNat 110, Char.ofNat 32, Char.ofNat 99, Char.ofNat 121, Char.ofNat 108, Char.ofNat 105, Char.ofNat 110, Char.ofNat 100, Char.ofNat 101, Char.ofNat 114, Char.ofNat 47, Char.ofNat 99, Char.ofNat 121, Char.ofNat 108, Char.ofNat 105, Char.ofNat 110, Char.ofNat 100, Char.ofNat 101, Char.ofNat 114, Char.ofNat 108, Char.ofNat 97, Char.ofNat 119, Char.ofNat 49, Char.ofNat 52, Char.ofNat 46, Char.ofNat 82, Char.ofNat 111, Char.ofNat 111, Char.ofNat 116, Char.ofNat 98, Char.ofNat 111, Char.ofNat 117, Char.ofNat 110, Char.ofNat 100, Char.ofNat 72, Char.ofNat 111, Char.ofNat 108, Char.ofNat 100, Char.ofNat 115, Char.ofNat 32, Char.ofNat 99, Char.ofNat 121, Char.ofNat 108, Char.ofNat 105, Char.ofNat 110, Char.ofNat 100, Char.ofNat 101, Char.ofNat 114, Char.ofNat 47, Char.ofNat 99, Char.ofNat 121, Char.ofNat 108, Char.ofNat 105, Char.ofNat 110, Char.ofNat 100, Char.ofNat 101, Char.ofNat 114, Char.ofNat 108, Char.ofNat 97, Char.ofNat 119, Char.ofNat 48, Char.ofNat 57, Char.ofNat 46, Char.ofNat 85, Char.ofNat 110, Char.ofNat 105, Char.ofNat 100, Char.ofNat 105, Char.ofNat 118, Char.ofNat 69, Char.ofNat 120, Char.ofNat 97, Char.ofNat 99, Char.ofNat 116, Char.ofNat 32, Char.ofNat 99, Char.ofNat 121, Char.ofNat 108, Char.ofNat 105, Char.ofNat 110, Char.ofNat 100, Char.ofNat 101, Char.ofNat 114, Char.ofNat 47, Char.ofNat 99, Char.ofNat 121, Char.ofNat 108, Char.ofNat 105, Char.ofNat 110, Char.ofNat 100, Char.ofNat 101, Char.ofNat 114, Char.ofNat 108, Char.ofNat 97, Char.ofNat 119, Char.ofNat 49, Char.ofNat 49, Char.ofNat 46, Char.ofNat 83, Char.ofNat 113, Char.ofNat 117, Char.ofNat 97, Char.ofNat 114, Char.ofNat 101, Char.ofNat 102, Char.ofNat 114, Char.ofNat 101, Char.ofNat 101, Char.ofNat 80, Char.ofNat 97, Char.ofNat 114, Char.ofNat 116, Char.ofNat 115, Char.ofNat 32, Char.ofNat 99, Char.ofNat 121, Char.ofNat 108, Char.ofNat 105, Char.ofNat 110, Char.ofNat 100, Char.ofNat 101, Char.ofNat 114, Char.ofNat 47, Char.ofNat 99, Char.ofNat 121, Char.ofNat 108, Char.ofNat 105, Char.ofNat 110, Char.ofNat 100, Char.ofNat 101, Char.ofNat 114, Char.ofNat 108, Char.ofNat 97, Char.ofNat 119, Char.ofNat 48, Char.ofNat 57, Char.ofNat 46, Char.ofNat 85, Char.ofNat 110, Char.ofNat 105, Char.ofNat 100, Char.ofNat 105, Char.ofNat 118, Char.ofNat 88, Char.ofNat 103, Char.ofNat 99, Char.ofNat 100, Char.ofNat 32, Char.ofNat 99, Char.ofNat 121, Char.ofNat 108, Char.ofNat 105, Char.ofNat 110, Char.ofNat 100, Char.ofNat 101, Char.ofNat 114, Char.ofNat 47, Char.ofNat 99, Char.ofNat 121, Char.ofNat 108, Char.ofNat 105, Char.ofNat 110, Char.ofNat 100, Char.ofNat 101, Char.ofNat 114, Char.ofNat 108, Char.ofNat 97, Char.ofNat 119, Char.ofNat 49, Char.ofNat 49, Char.ofNat 46, Char.ofNat 83, Char.ofNat 113, Char.ofNat 117, Char.ofNat 97, Char.ofNat 114, Char.ofNat 101, Char.ofNat 102, Char.ofNat 114, Char.ofNat 101, Char.ofNat 101, Char.ofNat 68, Char.ofNat 101, Char.ofNat 99, Char.ofNat 111, Char.ofNat 109, Char.ofNat 112, Char.ofNat 111, Char.ofNat 115, Char.ofNat 101, Char.ofNat 115, Char.ofNat 32, Char.ofNat 99, Char.ofNat 121, Char.ofNat 108, Char.ofNat 105, Char.ofNat 110, Char.ofNat 100, Char.ofNat 101, Char.ofNat 114, Char.ofNat 47, Char.ofNat 99, Char.ofNat 121, Char.ofNat 108, Char.ofNat 105, Char.ofNat 110, Char.ofNat 100, Char.ofNat 101, Char.ofNat 114, Char.ofNat 108, Char.ofNat 97, Char.ofNat 119, Char.ofNat 49, Char.ofNat 49, Char.ofNat 46, Char.ofNat 83, Char.ofNat 113, Char.ofNat 117, Char.ofNat 97, Char.ofNat 114, Char.ofNat 101, Char.ofNat 102, Char.ofNat 114, Char.ofNat 101, Char.ofNat 101, Char.ofNat 80, Char.ofNat 111, Char.ofNat 119, Char.ofNat 101, Char.ofNat 114, Char.ofNat 115, Char.ofNat 32, Char.ofNat 99, Char.ofNat 121, Char.ofNat 108, Char.ofNat 105, Char.ofNat 110, Char.ofNat 100, Char.ofNat 101, Char.ofNat 114, Char.ofNat 47, Char.ofNat 99, Char.ofNat 121, Char.ofNat 108, Char.ofNat 105, Char.ofNat 110, Char.ofNat 100, Char.ofNat 101, Char.ofNat 114, Char.ofNat 108, Char.ofNat 97, Char.ofNat 119, Char.ofNat 49, Char.ofNat 49, Char.ofNat 46, Char.ofNat 83, Char.ofNat 113, Char.ofNat 117, Char.ofNat 97, Char.ofNat 114, Char.ofNat 101, Char.ofNat 102, Char.ofNat 114, Char.ofNat 101, Char.ofNat 101, Char.ofNat 67, Char.ofNat 111, Char.ofNat 118, Char.ofNat 101, Char.ofNat 114, Char.ofNat 115, Char.ofNat 32, Char.ofNat 99, Char.ofNat 121, Char.ofNat 108, Char.ofNat 105, Char.ofNat 110, Char.ofNat 100, Char.ofNat 101, Char.ofNat 114, Char.ofNat 47, Char.ofNat 99, Char.ofNat 121, Char.ofNat 108, Char.ofNat 105, Char.ofNat 110, Char.ofNat 100, Char.ofNat 101, Char.ofNat 114, Char.ofNat 108, Char.ofNat 97, Char.ofNat 119, Char.ofNat 49, Char.ofNat 52, Char.ofNat 46, Char.ofNat 82, Char.ofNat 111, Char.ofNat 111, Char.ofNat 116, Char.ofNat 98, Char.ofNat 111, Char.ofNat 117, Char.ofNat 110, Char.ofNat 100, Char.ofNat 83, Char.ofNat 101, Char.ofNat 112, Char.ofNat 97, Char.ofNat 114, Char.ofNat 97, Char.ofNat 116, Char.ofNat 105, Char.ofNat 111, Char.ofNat 110, Char.ofNat 32, Char.ofNat 99, Char.ofNat 121, Char.ofNat 108, Char.ofNat 105, Char.ofNat 110, Char.ofNat 100, Char.ofNat 101, Char.ofNat 114, Char.ofNat 47, Char.ofNat 99, Char.ofNat 121, Char.ofNat 108, Char.ofNat 105, Char.ofNat 110, Char.ofNat 100, Char.ofNat 101, Char.ofNat 114, Char.ofNat 108, Char.ofNat 97, Char.ofNat 119, Char.ofNat 49, Char.ofNat 49, Char.ofNat 46, Char.ofNat 83, Char.ofNat 113, Char.ofNat 117, Char.ofNat 97, Char.ofNat 114, Char.ofNat 101, Char.ofNat 102, Char.ofNat 114, Char.ofNat 101, Char.ofNat 101, Char.ofNat 67, Char.ofNat 111, Char.ofNat 117, Char.ofNat 110, Char.ofNat 116, Char.ofNat 115, Char.ofNat 32, Char.ofNat 99, Char.ofNat 121, Char.ofNat 108, Char.ofNat 105, Char.ofNat 110, Char.ofNat 100, Char.ofNat 101, Char.ofNat 114, Char.ofNat 47, Char.ofNat 99, Char.ofNat 121, Char.ofNat 108, Char.ofNat 105, Char.ofNat 110, Char.ofNat 100, Char.ofNat 101, Char.ofNat 114, Char.ofNat 108, Char.ofNat 97, Char.ofNat 119, Char.ofNat 49, Char.ofNat 49, Char.ofNat 46, Char.ofNat 83, Char.ofNat 113, Char.ofNat 117, Char.ofNat 97, Char.ofNat 114, Char.ofNat 101, Char.ofNat 102, Char.ofNat 114, Char.ofNat 101, Char.ofNat 101, Char.ofNat 77, Char.ofNat 117, Char.ofNat 108, Char.ofNat 116, Char.ofNat 105, Char.ofNat 112, Char.ofNat 108, Char.ofNat 105, Char.ofNat 101, Char.ofNat 115, Char.ofNat 32, Char.ofNat 99, Char.ofNat 121, Char.ofNat 108, Char.ofNat 105, Char.ofNat 110, Char.ofNat 100, Char.ofNat 101, Char.ofNat 114, Char.ofNat 47, Char.ofNat 99, Char.ofNat 121, Char.ofNat 108, Char.ofNat 105, Char.ofNat 110, Char.ofNat 100, Char.ofNat 101, Char.ofNat 114, Char.ofNat 108, Char.ofNat 97, Char.ofNat 119, Char.ofNat 49, Char.ofNat 49, Char.ofNat 46, Char.ofNat 83, Char.ofNat 113, Char.ofNat 117, Char.ofNat 97, Char.ofNat 114, Char.ofNat 101, Char.ofNat 102, Char.ofNat 114, Char.ofNat 101, Char.ofNat 101, Char.ofNat 69, Char.ofNat 120, Char.ofNat 112, Char.ofNat 111, Char.ofNat 110, Char.ofNat 101, Char.ofNat 110, Char.ofNat 116, Char.ofNat 115, Char.ofNat 32, Char.ofNat 99, Char.ofNat 121, Char.ofNat 108, Char.ofNat 105, Char.ofNat 110, Char.ofNat 100, Char.ofNat 101, Char.ofNat 114, Char.ofNat 47, Char.ofNat 99, Char.ofNat 121, Char.ofNat 108, Char.ofNat 105, Char.ofNat 110, Char.ofNat 100, Char.ofNat 101, Char.ofNat 114, Char.ofNat 108, Char.ofNat 97, Char.ofNat 119, Char.ofNat 49, Char.ofNat 52, Char.ofNat 46, Char.ofNat 82, Char.ofNat 111, Char.ofNat 111, Char.ofNat 116, Char.ofNat 98, Char.ofNat 111, Char.ofNat 117, Char.ofNat 110, Char.ofNat 100, Char.ofNat 65, Char.ofNat 112, Char.ofNat 97, Char.ofNat 114, Char.ofNat 116, Char.ofNat 32, Char.ofNat 99, Char.ofNat 121, Char.ofNat 108, Char.ofNat 105, Char.ofNat 110, Char.ofNat 100, Char.ofNat 101, Char.ofNat 114, Char.ofNat 47, Char.ofNat 99, Char.ofNat 121, Char.ofNat 108, Char.ofNat 105, Char.ofNat 110, Char.ofNat 100, Char.ofNat 101, Char.ofNat 114, Char.ofNat 108, Char.ofNat 97, Char.ofNat 119, Char.ofNat 49, Char.ofNat 52, Char.ofNat 46, Char.ofNat 82, Char.ofNat 111, Char.ofNat 111, Char.ofNat 116, Char.ofNat 98, Char.ofNat 111, Char.ofNat 117, Char.ofNat 110, Char.ofNat 100, Char.ofNat 83, Char.ofNat 99, Char.ofNat 97, Char.ofNat 108, Char.ofNat 101, Char.ofNat 115, Char.ofNat 32, Char.ofNat 99, Char.ofNat 121, Char.ofNat 108, Char.ofNat 105, Char.ofNat 110, Char.ofNat 100, Char.ofNat 101, Char.ofNat 114, Char.ofNat 47, Char.ofNat 99, Char.ofNat 121, Char.ofNat 108, Char.ofNat 105, Char.ofNat 110, Char.ofNat 100, Char.ofNat 101, Char.ofNat 114, Char.ofNat 108, Char.ofNat 97, Char.ofNat 119, Char.ofNat 49, Char.ofNat 49, Char.ofNat 46, Char.ofNat 83, Char.ofNat 113, Char.ofNat 117, Char.ofNat 97, Char.ofNat 114, Char.ofNat 101, Char.ofNat 102, Char.ofNat 114, Char.ofNat 101, Char.ofNat 101, Char.ofNat 79, Char.ofNat 114, Char.ofNat 100, Char.ofNat 101, Char.ofNat 114, Char.ofNat 108, Char.ofNat 101, Char.ofNat 115, Char.ofNat 115, Char.ofNat 32, Char.ofNat 99, Char.ofNat 121, Char.ofNat 108, Char.ofNat 105, Char.ofNat 110, Char.ofNat 100, Char.ofNat 101, Char.ofNat 114, Char.ofNat 47, Char.ofNat 99, Char.ofNat 121, Char.ofNat 108, Char.ofNat 105, Char.ofNat 110, Char.ofNat 100, Char.ofNat 101, Char.ofNat 114, Char.ofNat 108, Char.ofNat 97, Char.ofNat 119, Char.ofNat 49, Char.ofNat 49, Char.ofNat 46, Char.ofNat 83, Char.ofNat 113, Char.ofNat 117, Char.ofNat 97, Char.ofNat 114, Char.ofNat 101, Char.ofNat 102, Char.ofNat 114, Char.ofNat 101, Char.ofNat 101, Char.ofNat 83, Char.ofNat 112, Char.ofNat 97, Char.ofNat 110, Char.ofNat 115]
theorem io_eq : Try.prog.initOrder = String.ofList ioChars := by kernel_rfl
theorem io_list : Try.prog.initOrder.toList = ioChars := by rw [io_eq]; exact String.toList_ofList
theorem behind : ∃ R, behindMainWord (wordsSigns Try.prog.initOrder.toList) = "cut".toList :: R := by
  rw [io_list]
  exact ⟨(behindMainWord (wordsSigns ioChars)).tail, by kernel_rfl⟩
theorem laysF : Try.prog.laysLater = false := by kernel_rfl
theorem bearsF : Try.prog.bearsReflect = false := by kernel_rfl
theorem doorT : Try.prog.doorFits [] = true := by kernel_rfl

theorem lifts_nil (R : List (List Char)) : stripLifts liftWords ("cut".toList :: R) = ([], "cut".toList :: R) := by
  have h : ∀ o ∈ liftWords, ("cut".toList == o.toList) = false := by decide +kernel
  generalize liftWords = l at *
  induction l with
  | nil => rfl
  | cons o l ih =>
    unfold stripLifts
    rw [if_neg (by rw [h o (by simp)]; simp)]
    exact ih fun o ho => h o (by simp [ho])
theorem may_of {P : Program} {R : List (List Char)} (h : behindMainWord (wordsSigns P.initOrder.toList) = "cut".toList :: R) (h1 : P.laysLater = false) (h2 : P.bearsReflect = false) (h3 : P.doorFits [] = true) : P.mayEnter = true := by
  unfold Program.mayEnter
  rw [h]
  simp only [lifts_nil, h1, h2, h3, List.head?_cons, Bool.not_false, Bool.or_true, Bool.and_true, List.contains_nil, BEq.rfl]
theorem lifts_of {P : Program} {R : List (List Char)} (h : behindMainWord (wordsSigns P.initOrder.toList) = "cut".toList :: R) : P.liftsFinal = false := by
  unfold Program.liftsFinal Program.headLifts
  simp only [h, lifts_nil, List.head?_cons]
  have e : (some "cut".toList == some "carried".toList) = false := by decide +kernel
  rw [e]
  simp
theorem make_of {P : Program} {R : List (List Char)} (h : behindMainWord (wordsSigns P.initOrder.toList) = "cut".toList :: R) : P.make = some Make.cut := by
  unfold Program.make
  rw [h]
  have h1 : ("cut".toList == "gc".toList) = false := by decide +kernel
  have h2 : ("cut".toList == "spec".toList) = false := by decide +kernel
  simp only [h1, h2, BEq.rfl, Bool.or_self, Bool.true_or, if_true, if_false, Bool.false_eq_true]
theorem may_enter : Try.prog.mayEnter = true := behind.elim fun _ h => may_of h laysF bearsF doorT
theorem lifts_final : Try.prog.liftsFinal = false := behind.elim fun _ h => lifts_of h
theorem make_cut : Try.prog.make = some Make.cut := behind.elim fun _ h => make_of h

theorem joined_of {f : FuncId} {fn : Func} {s : ChangeSpec} {c : OpenClaim} (hc : (c.stops == [] && c.knobs == [] && c.shortTexts.isNone && !c.lifted && (c.make == Make.cut)) = true)
    (k1 : c.wf (OpenSpec.ofChange s) = true) (k2 : fn.params.all (Try.prog.readableRec ·) = true) (k3 : namedTie Try.prog c.named s.vars = true)
    (k4 : (c.inPlace == Try.prog.inPlace f) = true) (k5 : (c.unfollowed == Try.prog.unfollowed f) = true) (k6 : (c.recurses == Try.prog.recurses f) = true) (k7 : (c.named == Try.prog.varsNamed f) = true)
    (k8 : ((c.maps == (fn.params.toList ++ s.plain.varTypes Try.prog).any (Try.prog.mapsRec ·)) && (c.ifaces == (fn.params.toList ++ s.plain.varTypes Try.prog).any (Try.prog.ifacesRec ·)) && (c.mapsOut == Try.prog.mapsAmong fn.resultTypes.toList)) = true)
    (k9 : ((c.loops == (fn.params.toList ++ s.plain.varTypes Try.prog).any (Try.prog.loopsFrom ·)) && (c.wideKeys == (fn.params.toList ++ s.plain.varTypes Try.prog ++ fn.resultTypes.toList).any (Try.prog.wideKeysFrom ·))) = true)
    (k10 : (s.vars.all (Try.prog.varReadable ·) && fn.resultTypes.all (fun t => Try.prog.readableRec t && decide (t < Try.prog.types.size)) && (c.ifacesOut == fn.resultTypes.toList.any (Try.prog.ifacesRec ·)) && (c.loopsOut == fn.resultTypes.toList.any (Try.prog.loopsFrom ·))) = true)
    (k11 : (c.plainKeys == Try.prog.plainKeys) = true)
    (k12 : ((c.kinds == (if c.domain.isEmpty then [] else fn.params.toList.map fun t => match Try.prog.underlying t with | some (.int k) => some k | _ => none)) && (c.pinned == c.pinnedBy)) = true)
    (k13 : ((c.veiled == (fn.params.toList ++ s.plain.varTypes Try.prog ++ fn.resultTypes.toList).any (Try.prog.veiledRec ·)) && c.veiledFits Try.prog fn.params.toList (fn.params.toList ++ s.plain.varTypes Try.prog ++ fn.resultTypes.toList)) = true)
    (laid : laidOutB Try.prog = true) (mapsR : mapsRowed Try.prog = true) (st : (Try.prog.stops == []) = true) (sk : (Try.prog.stopKnobs == []) = true) (sh : Try.prog.stopsHeard = true) :
    joinedFacts Try.prog f fn s c = true := by
  simp only [Bool.and_eq_true] at hc k8 k9 k10 k12 k13
  have hl : (c.lifted == Try.prog.liftsFinal) = true := by
    rw [lifts_final]
    have := hc.1.2
    cases e : c.lifted <;> simp_all
  have hm : (Try.prog.make == some c.make) = true := by
    have e := hc.2
    have e2 : c.make = Make.cut := eq_of_beq e
    rw [e2, make_cut]; exact beq_self_eq_true _
  unfold joinedFacts
  simp only [Bool.and_eq_true]
  exact ⟨⟨⟨⟨⟨⟨⟨⟨⟨⟨⟨⟨⟨⟨⟨⟨⟨⟨⟨⟨⟨⟨⟨⟨⟨⟨⟨⟨⟨⟨⟨k1, laid⟩, mapsR⟩, k2⟩, k3⟩, hc.1.1.1.1⟩, st⟩, hc.1.1.1.2⟩, sk⟩, k4⟩, k5⟩, k6⟩, k7⟩, k8.1.1⟩, k8.1.2⟩, k8.2⟩, k9.1⟩, k9.2⟩, k10.1.1.1⟩, k10.1.1.2⟩, k10.1.2⟩, k10.2⟩, k11⟩, hc.1.1.2⟩, sh⟩, may_enter⟩, hl⟩, hm⟩, k12.1⟩, k12.2⟩, k13.1⟩, k13.2⟩
theorem laid_out : laidOutB Try.prog = true := by kernel_rfl
theorem maps_rowed : mapsRowed Try.prog = true := by kernel_rfl
theorem stops_none : (Try.prog.stops == []) = true := by kernel_rfl
theorem knobs_none : (Try.prog.stopKnobs == []) = true := by kernel_rfl
theorem stops_heard : Try.prog.stopsHeard = true := by kernel_rfl
theorem plain_keys : (true == Try.prog.plainKeys) = true := by kernel_rfl
end Go.Abs

set_option linter.unusedVariables false
set_option linter.unusedSimpArgs false
namespace Go.Abs
open Go Go.Proofs
set_option maxRecDepth 100000

theorem utrim_fn (ps : List RI) (hn : ps.length ≤ 2 ^ 40) (hp : Pok (2 ^ 40) ps) : Fn Try.prog 161 [.d (rp ps)] [] (.d (rp (rtrim ps))) [] := by
  refine fn0 (nt := 24) (res := [.tmp 2]) Try.func161 rfl (by decide) rfl rfl rfl rfl ?_
  intro C hP hnt hl
  have hle := zdeg_le (co ps) ps.length
  refine awp_sx prog_ok hP hnt [] [] [] [0] (by kernel_rfl) (G := fun K => K (St.mk [(0, V.d (rp ps))] [] 1)) (fun K => by kernel_rfl) ?_
  refine awp_sx prog_ok hP hnt [] [] [] [0, 3] (by kernel_rfl) (G := fun K => K (St.mk [(0, V.d (rp ps)), (3, V.d (D.int IntKind.i64 (↑ps.length : Int)))] [] 4)) (fun K => by kernel_rfl) ?_
  refine awp_cut (ι := Unit) (fun _ => ⟨[(0, .d (rp ps)), (3, .d (.int .i64 (zdeg (co ps) ps.length : Nat)))], [], 0⟩) (fun _ => True) ?_ ?_
  · refine awp_block ?_
    refine awp_loop (ι := Nat) (fun n => ⟨[(0, .d (rp ps)), (3, .d (.int .i64 n))], [], 0⟩) (fun n => n ≤ ps.length ∧ zdeg (co ps) n = zdeg (co ps) ps.length) (fun n => n) ps.length [] ⟨Nat.le_refl _, rfl⟩ ?_ ?_
    · constructor <;> simp [hl, envOk, memOk, conv, St.get]
    intro n ⟨hn2, ht⟩
    refine awp_seq_k fun K2 hK2 => ?_
    by_cases h0 : n = 0
    · subst h0
      refine awp_sx prog_ok hP hnt [(8, .bool false)] [] [] [0, 3, 16] (by kernel_rfl) (G := fun K => decide ((↑0 : Int) > (0 : Int)) = false ∧ K (St.mk [(0, V.d (rp ps)), (3, V.d (D.int IntKind.i64 (↑0 : Int))), (16, V.d (D.bool false))] [] 11)) (fun K => by kernel_rfl) ?_
      refine ⟨rfl, awp_cond (b := false) rfl nofun fun _ => awp_exit ⟨(), [], trivial, ?_⟩⟩
      constructor <;> simp [hl, ← ht, zdeg, envOk, memOk, conv, St.get]
    · obtain ⟨q, hq⟩ := get_ex (l := ps) (i := n - 1) (by omega)
      obtain ⟨dq, lq⟩ := hp q (List.mem_of_getElem? hq)
      have hc := co_some hq
      refine awp_sx prog_ok hP hnt [(8, .bool true), (11, .int .i64 (n - 1 : Nat))] [.val (.d (.bool (decide (val q.2 = 0))))] [some [du q.2]] [0, 3, 16] (by kernel_rfl) (G := fun K => decide ((↑n : Int) > (0 : Int)) = true ∧ IntKind.i64.wrap ((↑n : Int) - (1 : Int)) = (↑(n - 1) : Int) ∧ ((0 : Int) ≤ (↑(n - 1) : Int) ∧ (↑(n - 1) : Int) < (↑ps.length : Int) ∧ ((↑(n - 1) : Int).toNat + 1) * 2 ≤ (rc ps).length) ∧ (List.drop 1 (List.drop ((↑(n - 1) : Int).toNat * 2) (rc ps)))[0]? = some (du q.snd) ∧ Fn Try.prog 187 [V.d (du q.snd)] [] (V.d (D.bool (decide (val q.snd = 0)))) [] ∧ K (St.mk [(0, V.d (rp ps)), (3, V.d (D.int IntKind.i64 (↑n : Int))), (16, V.d (D.bool (decide (val q.snd = 0))))] [] 11)) (fun K => by kernel_rfl) ?_
      have hz : val q.2 = 0 ↔ rval q = 0 := by unfold rval ival sgn; split <;> omega
      refine ⟨by simp; omega, by rw [w64] <;> omega, ⟨by omega, by omega, by simp; omega⟩, by rw [Int.toNat_natCast, rc_at hq]; rfl, isZero_fn q.2 (by omega) dq, ?_⟩
      refine awp_cond rfl (fun hb => awp_skip (hK2 _ ?_)) (fun hb => awp_exit ⟨(), [], trivial, ?_⟩)
      · simp at hb
        refine awp_block ?_
        refine awp_x prog_ok hP hnt [(18, .int .i64 (n - 1 : Nat))] [] [] [0, 3] (by kernel_rfl) (G := fun K => IntKind.i64.wrap ((↑n : Int) - (1 : Int)) = (↑(n - 1) : Int) ∧ K (St.mk [(0, V.d (rp ps)), (3, V.d (D.int IntKind.i64 (↑(n - 1) : Int)))] [] 14)) (fun K => by kernel_rfl) ?_
        refine ⟨by rw [w64] <;> omega, n - 1, [], ⟨⟨by omega, ?_⟩, by omega⟩, ?_⟩
        · rw [← ht]; exact (zdeg_zero (by omega) (by rw [hc]; exact hz.1 hb)).symm
        · constructor <;> simp [hl, envOk, memOk, conv, St.get]
      · simp at hb
        constructor <;> simp [hl, ← ht, zdeg_stop (f := co ps) (show 0 < n by omega) (by rw [hc]; exact fun e => hb (hz.2 e)), envOk, memOk, conv, St.get]
  · intro _ _
    refine awp_seq_k fun K hK => ?_
    refine awp_sx prog_ok hP hnt [] [] [] [0, 3, 20] (by kernel_rfl) (G := fun K => K (St.mk [(0, V.d (rp ps)), (3, V.d (D.int IntKind.i64 (↑(zdeg (co ps) ps.length) : Int))), (20, V.d (D.bool ((↑(zdeg (co ps) ps.length) : Int) == (0 : Int))))] [] 2)) (fun K => by kernel_rfl) ?_
    refine awp_cond rfl (fun hb => ?_) (fun hb => awp_skip (hK _ ?_))
    · refine awp_sx prog_ok hP hnt [] [] [] [2] (by kernel_rfl) (G := fun K => K (St.mk [(2, V.nil)] [] 3)) (fun K => by kernel_rfl) ?_
      refine awp_ret ⟨.inl rfl, ?_⟩
      simp at hb
      rw [rtrim, hb]
      exact retNil rfl
    · refine awp_sx prog_ok hP hnt [] [] [] [2] (by kernel_rfl) (G := fun K => ((0 : Int) ≤ (↑(zdeg (co ps) ps.length) : Int) ∧ (↑(zdeg (co ps) ps.length) : Int) ≤ (↑ps.length : Int)) ∧ K (St.mk [(2, V.d (D.lst (↑(zdeg (co ps) ps.length) : Int).toNat (List.take ((↑(zdeg (co ps) ps.length) : Int).toNat * 2) (rc ps))))] [] 6)) (fun K => by kernel_rfl) ?_
      refine ⟨by omega, awp_ret ⟨.inl rfl, retD ?_⟩⟩
      rw [Int.toNat_natCast, rc_take]
      show V.d _ = V.d _
      unfold rp rtrim
      rw [List.length_take, Nat.min_eq_left hle]
end Go.Abs

set_option linter.unusedVariables false
set_option linter.unusedSimpArgs false
namespace Go.Abs
open Go Go.Proofs
set_option maxRecDepth 100000


theorem umul_fn (K : Nat) (ps qs : List RI) (hK : K + K + 1 ≤ 2 ^ 40) (hn : ps.length ≤ 2 ^ 30) (hm : qs.length ≤ 2 ^ 30) (hp : Pok K ps) (hq : Pok K qs) :
    Fn Try.prog 44 [.d (rp ps), .d (rp qs)] [] (.d (rp (can (mulC (co ps) (co qs) ps.length) (ps.length + qs.length)))) [] := by
  refine fn0 (nt := 65) (res := [.tmp 4]) Try.func44 rfl (by decide) rfl rfl rfl rfl ?_
  intro C hP hnt hl
  refine awp_sx prog_ok hP hnt [] [] [] [0, 1] (by kernel_rfl) (G := fun K => K (St.mk [(0, V.d (rp ps)), (1, V.d (rp qs))] [] 1)) (fun K => by kernel_rfl) ?_
  refine awp_sx prog_ok hP hnt [] [.val (.d (rp (rtrim ps))), .val (.d (rp (rtrim qs)))] [] [0, 1] (by kernel_rfl) (G := fun K => Fn Try.prog 161 [V.d (rp ps)] [] (V.d (rp (rtrim ps))) [] ∧ Fn Try.prog 161 [V.d (rp qs)] [] (V.d (rp (rtrim qs))) [] ∧ K (St.mk [(0, V.d (rp (rtrim ps))), (1, V.d (rp (rtrim qs)))] [] 7)) (fun K => by kernel_rfl) ?_
  refine ⟨utrim_fn ps (by omega) (fun p h => ⟨(hp p h).1, by have := (hp p h).2; omega⟩), utrim_fn qs (by omega) (fun p h => ⟨(hq p h).1, by have := (hq p h).2; omega⟩), ?_⟩
  have hpu := rtrim_ok hp
  have hqv := rtrim_ok hq
  have lu := rtrim_len ps
  have lv := rtrim_len qs
  have lu2 := zdeg_le (co ps) ps.length
  have lv2 := zdeg_le (co qs) qs.length
  have cu : ∀ k, co (rtrim ps) k = co ps k := co_rtrim ps
  have cv : ∀ k, co (rtrim qs) k = co qs k := co_rtrim qs
  have fz : ∀ k, (rtrim ps).length ≤ k → co ps k = 0 := fun k hk => by rw [← cu]; exact co_beyond hk
  have gz : ∀ k, (rtrim qs).length ≤ k → co qs k = 0 := fun k hk => by rw [← cv]; exact co_beyond hk
  have fa : ∀ a, (co ps a).natAbs ≤ 4294967296 ^ K := fun a => Nat.le_of_lt (co_abs hp a)
  have ga : ∀ a, (co qs a).natAbs ≤ 4294967296 ^ K := fun a => Nat.le_of_lt (co_abs hq a)
  generalize rtrim ps = u at *
  generalize rtrim qs = v at *
  have hfin : can (mulC (co ps) (co qs) ps.length) (ps.length + qs.length) = can (mulC (co ps) (co qs) u.length) (u.length + v.length - 1) := can_mul fz gz (by omega) (by omega)
  rw [hfin]
  generalize co ps = f at *
  generalize co qs = g at *
  refine awp_cut (ι := Unit) (fun _ => ⟨[(0, .d (rp u)), (1, .d (rp v))], [], 0⟩) (fun _ => 0 < u.length ∧ 0 < v.length) ?_ ?_
  · by_cases h0 : u.length = 0
    · refine awp_sx prog_ok hP hnt [(17, .bool true)] [] [] [0, 1, 21] (by kernel_rfl) (G := fun K => ((↑u.length : Int) == (0 : Int)) = true ∧ K (St.mk [(0, V.d (rp u)), (1, V.d (rp v)), (21, V.d (D.bool true))] [] 15)) (fun K => by kernel_rfl) ?_
      refine ⟨by simp [List.length_eq_zero_iff.1 h0], awp_cond (b := true) rfl (fun _ => ?_) nofun⟩
      refine awp_sx prog_ok hP hnt [] [] [] [4] (by kernel_rfl) (G := fun K => K (St.mk [(4, V.nil)] [] 16)) (fun K => by kernel_rfl) ?_
      refine awp_ret ⟨.inl rfl, ?_⟩
      rw [h0, can_none (F := mulC f g 0) (fun k _ => rfl)]
      exact retNil rfl
    refine awp_sx prog_ok hP hnt [(17, .bool false)] [] [] [0, 1, 21] (by kernel_rfl) (G := fun K => ((↑u.length : Int) == (0 : Int)) = false ∧ K (St.mk [(0, V.d (rp u)), (1, V.d (rp v)), (21, V.d (D.bool ((↑v.length : Int) == (0 : Int))))] [] 15)) (fun K => by kernel_rfl) ?_
    refine ⟨by simpa using h0, awp_cond rfl (fun h => ?_) (fun h => awp_skip ?_)⟩
    · refine awp_sx prog_ok hP hnt [] [] [] [4] (by kernel_rfl) (G := fun K => K (St.mk [(4, V.nil)] [] 16)) (fun K => by kernel_rfl) ?_
      refine awp_ret ⟨.inl rfl, ?_⟩
      have : v.length = 0 := by simp at h; simp [h]
      rw [can_none (fun k _ => mulC_g0 (fun a => gz a (by omega)) _ _)]
      exact retNil rfl
    · refine ⟨(), [], ⟨by omega, ?_⟩, ?_⟩
      · simp at h; exact List.length_pos_iff.2 h
      constructor <;> simp [hl, envOk, memOk, conv, St.get, St.blk]
  intro _ ⟨hu, hv⟩
  obtain ⟨N, hN⟩ : ∃ N, N = u.length + v.length - 1 := ⟨_, rfl⟩
  rw [← hN]
  refine awp_sx prog_ok hP hnt [(26, .int .i64 (u.length + v.length : Nat)), (27, .int .i64 N)] [] [] [0, 1, 5] (by kernel_rfl) (G := fun K => IntKind.i64.wrap ((↑u.length : Int) + (↑v.length : Int)) = (↑(u.length + v.length) : Int) ∧ IntKind.i64.wrap ((↑(u.length + v.length) : Int) - (1 : Int)) = (↑N : Int) ∧ ((↑N : Int) = (↑N : Int) ∧ (0 : Int) ≤ (↑N : Int) ∧ (↑N : Int) * (↑32 : Int) ≤ (2 : Int) ^ 47) ∧ K (St.mk [(0, V.d (rp u)), (1, V.d (rp v)), (5, V.own 6 0 (↑N : Int).toNat 2)] [(6, some (Blk.mk (zeros (↑N : Int).toNat (TI.mk (Kind.struct [(0, 1), (1, 1)]) 2 32 [D.bool false, D.lst 0 []]).zero) true))] 8)) (fun K => by kernel_rfl) ?_
  refine ⟨by rw [w64] <;> omega, by rw [w64] <;> omega, by omega, ?_⟩
  refine awp_cut (ι := Unit) (fun _ => ⟨[(5, .own 0 0 N 2)], [(0, some ⟨rc (mz (mulC f g u.length) N), true⟩)], 1⟩) (fun _ => True) ?_ ?_
  · refine awp_sx prog_ok hP hnt [] [] [] [1, 5, 29, 30, 31] (by kernel_rfl) (G := fun K => K (St.mk [(1, V.d (rp v)), (5, V.own 6 0 (↑N : Int).toNat 2), (29, V.d (rp u)), (30, V.d (D.int IntKind.i64 (↑u.length : Int))), (31, V.d (D.int IntKind.i64 (0 : Int)))] [(6, some (Blk.mk (zeros (↑N : Int).toNat (TI.mk (Kind.struct [(0, 1), (1, 1)]) 2 32 [D.bool false, D.lst 0 []]).zero) true))] 11)) (fun K => by kernel_rfl) ?_
    refine awp_block ?_
    refine awp_loop (ι := Nat) (fun i => ⟨[(1, .d (rp v)), (5, .own 0 0 N 2), (29, .d (rp u)), (30, .d (.int .i64 u.length)), (31, .d (.int .i64 i))], [(0, some ⟨rc (mz (mulC f g i) N), true⟩)], 1⟩)
      (fun i => i ≤ u.length) (fun i => u.length - i) 0 [(0, 6)] (by simp) ?_ ?_
    · constructor <;> simp [hl, envOk, memOk, conv, St.get, St.blk, zeros_rc, mz_zero]
      exact congrArg rc (mz_ext fun k _ => rfl)
    intro i hi
    refine awp_sx prog_ok hP hnt [] [] [] [1, 5, 29, 30, 31, 32] (by kernel_rfl) (G := fun K => K (St.mk [(1, V.d (rp v)), (5, V.own 0 0 N 2), (29, V.d (rp u)), (30, V.d (D.int IntKind.i64 (↑u.length : Int))), (31, V.d (D.int IntKind.i64 (↑i : Int))), (32, V.d (D.bool (decide ((↑i : Int) < (↑u.length : Int)))))] [(0, some (Blk.mk (rc (mz (mulC f g i) N)) true))] 2)) (fun K => by kernel_rfl) ?_
    refine awp_seq_k fun K1 hK1 => ?_
    refine awp_cond rfl (fun h => awp_skip (hK1 _ ?_)) (fun h => awp_exit ⟨(), [(0, 0)], trivial, ?_⟩)
    · simp at h
      obtain ⟨p, hp1⟩ := get_ex (l := u) (i := i) (by omega)
      have hpo := hpu p (List.mem_of_getElem? hp1)
      have hfi : f i = rval p := by rw [← cu, co_some hp1]
      refine awp_cut (ι := Unit) (fun _ => ⟨[(1, .d (rp v)), (5, .own 0 0 N 2), (29, .d (rp u)), (30, .d (.int .i64 u.length)), (31, .d (.int .i64 i))], [(0, some ⟨rc (mz (mulC f g (i + 1)) N), true⟩)], 1⟩) (fun _ => True) ?_ ?_
      · refine awp_block ?_
        refine awp_sx prog_ok hP hnt [] [] [some [.bool p.1, du p.2]] [1, 5, 6, 7, 29, 30, 31] (by kernel_rfl) (G := fun K => ((0 : Int) ≤ (↑i : Int) ∧ (↑i : Int) < (↑u.length : Int) ∧ ((↑i : Int).toNat + 1) * 2 ≤ (rc u).length) ∧ ((List.drop ((↑i : Int).toNat * 2) (rc u))[0]? = some (D.bool p.fst) ∧ (List.drop ((↑i : Int).toNat * 2) (rc u))[1]? = some (du p.snd)) ∧ 0 + [D.bool p.fst, du p.snd].length ≤ (TI.mk (Kind.struct [(0, 1), (1, 1)]) 2 32 [D.bool false, D.lst 0 []]).zero.length ∧ K (St.mk [(1, V.d (rp v)), (5, V.own 0 0 N 2), (29, V.d (rp u)), (30, V.d (D.int IntKind.i64 (↑u.length : Int))), (31, V.d (D.int IntKind.i64 (↑i : Int))), (7, V.ptr 5 0), (6, V.d (D.int IntKind.i64 (↑i : Int)))] [(0, some (Blk.mk (rc (mz (mulC f g i) N)) true)), (5, some (Blk.mk [D.bool p.fst, du p.snd] true))] 8)) (fun K => by kernel_rfl) ?_
        refine ⟨⟨by omega, by omega, by simp; omega⟩, by rw [Int.toNat_natCast, rc_at hp1]; exact ⟨rfl, rfl⟩, by simp, ?_⟩
        refine awp_seq_k fun K2 hK2 => ?_
        refine awp_sx prog_ok hP hnt [] [.val (.d (.int .i64 (rval p).sign))] [] [1, 5, 6, 7, 29, 30, 31, 38] (by kernel_rfl) (G := fun K => Fn Try.prog 102 [V.agg [D.bool p.fst, du p.snd]] [] (V.d (D.int IntKind.i64 (rval p).sign)) [] ∧ K (St.mk [(1, V.d (rp v)), (5, V.own 0 0 N 2), (29, V.d (rp u)), (30, V.d (D.int IntKind.i64 (↑u.length : Int))), (31, V.d (D.int IntKind.i64 (↑i : Int))), (7, V.ptr 5 0), (6, V.d (D.int IntKind.i64 (↑i : Int))), (38, V.d (D.bool ((rval p).sign == (0 : Int))))] [(0, some (Blk.mk (rc (mz (mulC f g i) N)) true)), (5, some (Blk.mk [D.bool p.fst, du p.snd] true))] 11)) (fun K => by kernel_rfl) ?_
        refine ⟨sign_fn p.1 p.2 (by have := hpo.2; omega) hpo.1, ?_⟩
        refine awp_cond rfl (fun h => awp_exit ⟨(), [(0, 0)], trivial, ?_⟩) (fun h => awp_skip (hK2 _ ?_))
        · have h0 : f i = 0 := by rw [hfi]; simpa [Int.sign_eq_zero_iff_zero] using h
          constructor <;> simp [hl, envOk, memOk, conv, St.get, St.blk]
          exact congrArg rc (mz_ext fun k _ => (mulC_skip h0 k).symm)
        refine awp_sx prog_ok hP hnt [] [] [] [1, 5, 6, 7, 29, 30, 31, 39, 40, 41] (by kernel_rfl) (G := fun K => K (St.mk [(1, V.d (rp v)), (5, V.own 0 0 N 2), (29, V.d (rp u)), (30, V.d (D.int IntKind.i64 (↑u.length : Int))), (31, V.d (D.int IntKind.i64 (↑i : Int))), (7, V.ptr 5 0), (6, V.d (D.int IntKind.i64 (↑i : Int))), (39, V.d (rp v)), (40, V.d (D.int IntKind.i64 (↑v.length : Int))), (41, V.d (D.int IntKind.i64 (0 : Int)))] [(0, some (Blk.mk (rc (mz (mulC f g i) N)) true)), (5, some (Blk.mk [D.bool p.fst, du p.snd] true))] 14)) (fun K => by kernel_rfl) ?_
        refine awp_block ?_
        refine awp_loop (ι := Nat) (fun j => ⟨[(1, .d (rp v)), (5, .own 0 0 N 2), (6, .d (.int .i64 i)), (7, .ptr 1 0), (29, .d (rp u)), (30, .d (.int .i64 u.length)), (31, .d (.int .i64 i)), (39, .d (rp v)), (40, .d (.int .i64 v.length)), (41, .d (.int .i64 j))], [(0, some ⟨rc (mz (mulM f g i j) N), true⟩), (1, some ⟨[.bool p.1, du p.2], true⟩)], 2⟩)
          (fun j => j ≤ v.length) (fun j => v.length - j) 0 [(0, 0), (1, 5)] (by simp) ?_ ?_
        · constructor <;> simp [hl, envOk, memOk, conv, St.get, St.blk]
          refine congrArg rc (mz_ext fun k _ => ?_)
          unfold mulM; rw [if_neg (by omega)]
        intro j hj
        refine awp_sx prog_ok hP hnt [] [] [] [1, 5, 6, 7, 29, 30, 31, 39, 40, 41, 42] (by kernel_rfl) (G := fun K => K (St.mk [(1, V.d (rp v)), (5, V.own 0 0 N 2), (6, V.d (D.int IntKind.i64 (↑i : Int))), (7, V.ptr 1 0), (29, V.d (rp u)), (30, V.d (D.int IntKind.i64 (↑u.length : Int))), (31, V.d (D.int IntKind.i64 (↑i : Int))), (39, V.d (rp v)), (40, V.d (D.int IntKind.i64 (↑v.length : Int))), (41, V.d (D.int IntKind.i64 (↑j : Int))), (42, V.d (D.bool (decide ((↑j : Int) < (↑v.length : Int)))))] [(0, some (Blk.mk (rc (mz (mulM f g i j) N)) true)), (1, some (Blk.mk [D.bool p.fst, du p.snd] true))] 3)) (fun K => by kernel_rfl) ?_
        refine awp_seq_k fun K3 hK3 => ?_
        refine awp_cond rfl (fun h => awp_skip (hK3 _ ?_)) (fun h => awp_exit ⟨(), [(0, 0)], trivial, ?_⟩)
        · simp at h
          obtain ⟨q, hq1⟩ := get_ex (l := v) (i := j) (by omega)
          have hqo := hqv q (List.mem_of_getElem? hq1)
          have hgj : g j = rval q := by rw [← cv, co_some hq1]
          refine awp_seq_k fun K4 hK4 => ?_
          refine awp_block ?_
          refine awp_sx prog_ok hP hnt [] [] [some [.bool q.1, du q.2]] [1, 5, 6, 7, 8, 9, 29, 30, 31, 39, 40, 41] (by kernel_rfl) (G := fun K => ((0 : Int) ≤ (↑j : Int) ∧ (↑j : Int) < (↑v.length : Int) ∧ ((↑j : Int).toNat + 1) * 2 ≤ (rc v).length) ∧ ((List.drop ((↑j : Int).toNat * 2) (rc v))[0]? = some (D.bool q.fst) ∧ (List.drop ((↑j : Int).toNat * 2) (rc v))[1]? = some (du q.snd)) ∧ 0 + [D.bool q.fst, du q.snd].length ≤ (TI.mk (Kind.struct [(0, 1), (1, 1)]) 2 32 [D.bool false, D.lst 0 []]).zero.length ∧ K (St.mk [(1, V.d (rp v)), (5, V.own 0 0 N 2), (6, V.d (D.int IntKind.i64 (↑i : Int))), (7, V.ptr 1 0), (29, V.d (rp u)), (30, V.d (D.int IntKind.i64 (↑u.length : Int))), (31, V.d (D.int IntKind.i64 (↑i : Int))), (39, V.d (rp v)), (40, V.d (D.int IntKind.i64 (↑v.length : Int))), (41, V.d (D.int IntKind.i64 (↑j : Int))), (9, V.ptr 6 0), (8, V.d (D.int IntKind.i64 (↑j : Int)))] [(0, some (Blk.mk (rc (mz (mulM f g i j) N)) true)), (1, some (Blk.mk [D.bool p.fst, du p.snd] true)), (6, some (Blk.mk [D.bool q.fst, du q.snd] true))] 9)) (fun K => by kernel_rfl) ?_
          refine ⟨⟨by omega, by omega, by simp; omega⟩, by rw [Int.toNat_natCast, rc_at hq1]; exact ⟨rfl, rfl⟩, by simp, ?_⟩
          have hold := mz_get (F := mulM f g i j) (n := N) (k := i + j) (by omega)
          have hnew : mulM f g i j (i + j) + rval p * rval q = mulM f g i (j + 1) (i + j) := by
            unfold mulM
            rw [if_neg (by omega), if_pos (by omega), ← hfi, ← hgj]
            simp only [mulC]
            rw [if_pos (by omega), Nat.add_sub_cancel_left]
          have hset := mz_set (F := mulM f g i j) (G := mulM f g i (j + 1)) (n := N) (j := i + j) rfl (fun k hk _ => by
            unfold mulM
            by_cases c : i ≤ k ∧ k < i + j
            · rw [if_pos c, if_pos (by omega)]
            · rw [if_neg c, if_neg (by omega)])
          rw [← hnew] at hset
          generalize hz : mulM f g i j (i + j) = z at *
          have hzb : z.natAbs < 4294967296 ^ (K + K + 1) := by
            rw [← hz]; exact Nat.lt_of_le_of_lt (mulM_abs fa ga _ _ _) (mul_bound (by omega) (Nat.le_refl _))
          have hpb : (rval p * rval q).natAbs < 4294967296 ^ (K + K + 1) := by
            rw [← hfi, ← hgj, Int.natAbs_mul]
            have := mul_bound (i := 1) (K := K) (by omega) (Nat.le_refl (4294967296 ^ K))
            rw [Nat.one_mul] at this
            exact Nat.lt_of_le_of_lt (Nat.mul_le_mul (fa _) (ga _)) this
          refine awp_x prog_ok hP hnt [(49, .int .i64 (i + j : Nat)), (53, .int .i64 (i + j : Nat))] [.val (.agg (iz (rval p * rval q))), .val (.agg (iz (z + rval p * rval q)))] [some (iz z)] [1, 5, 6, 7, 29, 30, 31, 39, 40, 41] (by kernel_rfl) (G := fun K => IntKind.i64.wrap ((↑i : Int) + (↑j : Int)) = (↑(i + j) : Int) ∧ IntKind.i64.wrap ((↑i : Int) + (↑j : Int)) = (↑(i + j) : Int) ∧ ((0 : Int) ≤ (↑(i + j) : Int) ∧ (↑(i + j) : Int) < (↑N : Int)) ∧ ((rc (mz (mulM f g i j) N))[0 + (↑(i + j) : Int).toNat * 2]? = some (D.bool (decide (z < (0 : Int)))) ∧ (rc (mz (mulM f g i j) N))[0 + (↑(i + j) : Int).toNat * 2 + 1]? = some (du (dig z.natAbs))) ∧ Fn Try.prog 123 [V.agg [D.bool p.fst, du p.snd], V.agg [D.bool q.fst, du q.snd]] [] (V.agg [D.bool (decide (rval p * rval q < (0 : Int))), du (dig (rval p * rval q).natAbs)]) [] ∧ Fn Try.prog 96 [V.agg [D.bool (decide (z < (0 : Int))), du (dig z.natAbs)], V.agg [D.bool (decide (rval p * rval q < (0 : Int))), du (dig (rval p * rval q).natAbs)]] [] (V.agg [D.bool (decide (z + rval p * rval q < (0 : Int))), du (dig (z + rval p * rval q).natAbs)]) [] ∧ ((0 : Int) ≤ (↑(i + j) : Int) ∧ (↑(i + j) : Int) < (↑N : Int)) ∧ 0 + (↑(i + j) : Int).toNat * 2 + (iz (z + rval p * rval q)).length ≤ (rc (mz (mulM f g i j) N)).length ∧ K (St.mk [(1, V.d (rp v)), (5, V.own 0 0 N 2), (6, V.d (D.int IntKind.i64 (↑i : Int))), (7, V.ptr 1 0), (29, V.d (rp u)), (30, V.d (D.int IntKind.i64 (↑u.length : Int))), (31, V.d (D.int IntKind.i64 (↑i : Int))), (39, V.d (rp v)), (40, V.d (D.int IntKind.i64 (↑v.length : Int))), (41, V.d (D.int IntKind.i64 (↑j : Int)))] [(0, some (Blk.mk (setCells (rc (mz (mulM f g i j) N)) (0 + (↑(i + j) : Int).toNat * 2) (iz (z + rval p * rval q))) true)), (1, some (Blk.mk [D.bool p.fst, du p.snd] true)), (6, some (Blk.mk [D.bool q.fst, du q.snd] true))] 25)) (fun K => by kernel_rfl) ?_
          have hzr := hzb
          have hmul := imul_fn p.1 q.1 p.2 q.2 (by have := hpo.2; omega) (by have := hqo.2; omega) hpo.1 hqo.1
          have hadd := iadd_fn (riz z).1 (riz (rval p * rval q)).1 (riz z).2 (riz (rval p * rval q)).2 (Nat.le_trans (riz_ok hzb).2 hK) (Nat.le_trans (riz_ok hpb).2 hK) (dig_lt _) (dig_lt _)
          rw [show ival (riz z).1 (riz z).2 = z from rval_riz z, show ival (riz (rval p * rval q)).1 (riz (rval p * rval q)).2 = rval p * rval q from rval_riz _] at hadd
          refine ⟨by rw [w64] <;> omega, by rw [w64] <;> omega, ⟨by omega, by omega⟩, ⟨by rw [Int.toNat_natCast, Nat.zero_add]; exact rc_get0 hold, by rw [Int.toNat_natCast, Nat.zero_add]; exact rc_get1 hold⟩, hmul, hadd, ⟨by omega, by omega⟩, ?_, hK4 _ ?_⟩
          · rw [rc_len, mz_len, Int.toNat_natCast, Nat.zero_add]; show (i + j) * 2 + 2 ≤ N * 2; omega
          have hsc := setCells_rc (mz (mulM f g i j) N) (i + j) (riz (z + rval p * rval q))
          rw [hset, ic_riz] at hsc
          refine awp_x prog_ok hP hnt [(61, .int .i64 (j + 1 : Nat))] [] [] [1, 5, 6, 7, 29, 30, 31, 39, 40, 41] (by kernel_rfl) (G := fun K => IntKind.i64.wrap ((↑j : Int) + (1 : Int)) = (↑(j + 1) : Int) ∧ K (St.mk [(1, V.d (rp v)), (5, V.own 0 0 N 2), (6, V.d (D.int IntKind.i64 (↑i : Int))), (7, V.ptr 1 0), (29, V.d (rp u)), (30, V.d (D.int IntKind.i64 (↑u.length : Int))), (31, V.d (D.int IntKind.i64 (↑i : Int))), (39, V.d (rp v)), (40, V.d (D.int IntKind.i64 (↑v.length : Int))), (41, V.d (D.int IntKind.i64 (↑(j + 1) : Int)))] [(0, some (Blk.mk (setCells (rc (mz (mulM f g i j) N)) (0 + (↑(i + j) : Int).toNat * 2) (iz (z + rval p * rval q))) true)), (1, some (Blk.mk [D.bool p.fst, du p.snd] true)), (6, some (Blk.mk [D.bool q.fst, du q.snd] true))] 27)) (fun K => by kernel_rfl) ?_
          refine ⟨by rw [w64] <;> omega, j + 1, [(0, 0), (1, 1)], ⟨by omega, by omega⟩, ?_⟩
          rw [Int.toNat_natCast, Nat.zero_add]
          constructor <;> simp [hl, envOk, memOk, conv, St.get, St.blk, hsc]
        · simp at h
          have : j = v.length := by omega
          subst this
          constructor <;> simp [hl, envOk, memOk, conv, St.get, St.blk]
          refine congrArg rc (mz_ext fun k _ => ?_)
          unfold mulM
          split
          · rfl
          · rename_i c
            by_cases c1 : k < i
            · exact (mulC_low c1).symm
            · exact (mulC_high gz (by omega)).symm
      intro _ _
      refine awp_x prog_ok hP hnt [(62, .int .i64 (i + 1 : Nat))] [] [] [1, 5, 29, 30, 31] (by kernel_rfl) (G := fun K => IntKind.i64.wrap ((↑i : Int) + (1 : Int)) = (↑(i + 1) : Int) ∧ K (St.mk [(1, V.d (rp v)), (5, V.own 0 0 N 2), (29, V.d (rp u)), (30, V.d (D.int IntKind.i64 (↑u.length : Int))), (31, V.d (D.int IntKind.i64 (↑(i + 1) : Int)))] [(0, some (Blk.mk (rc (mz (mulC f g (i + 1)) N)) true))] 3)) (fun K => by kernel_rfl) ?_
      refine ⟨by rw [w64] <;> omega, i + 1, [(0, 0)], ⟨by omega, by omega⟩, ?_⟩
      constructor <;> simp [hl, envOk, memOk, conv, St.get, St.blk]
    · simp at h
      have : i = u.length := by omega
      subst this
      constructor <;> simp [hl, envOk, memOk, conv, St.get, St.blk]
  intro _ _
  have hbound : ∀ k, (mulC f g u.length k).natAbs < 4294967296 ^ (K + K + 1) := fun k => Nat.lt_of_le_of_lt (mulC_abs fa ga _ _) (mul_bound (by omega) (Nat.le_refl _))
  have hpok : Pok (2 ^ 40) (mz (mulC f g u.length) N) := fun p hp => by
    simp only [mz, List.mem_map] at hp
    obtain ⟨k, _, rfl⟩ := hp
    exact ⟨(riz_ok (hbound k)).1, Nat.le_trans (riz_ok (hbound k)).2 hK⟩
  refine awp_sx prog_ok hP hnt [] [.val (.d (rp (can (mulC f g u.length) N)))] [] [4] (by kernel_rfl) (G := fun K => Fn Try.prog 161 [V.d (D.lst N (List.take (N * 2) (List.drop 0 (rc (mz (mulC f g u.length) N)))))] [] (V.d (rp (can (mulC f g u.length) N))) [] ∧ K (St.mk [(4, V.d (rp (can (mulC f g u.length) N)))] [(0, some (Blk.mk (rc (mz (mulC f g u.length) N)) false))] 4)) (fun K => by kernel_rfl) ?_
  refine ⟨?_, awp_ret ⟨.inl rfl, retD rfl⟩⟩
  have ht := utrim_fn (mz (mulC f g u.length) N) (by simp; omega) hpok
  rw [rtrim_mz] at ht
  rw [own_rp (by simp)]
  exact ht
end Go.Abs

set_option linter.unusedVariables false
set_option linter.unusedSimpArgs false
namespace Go.Abs
open Go Go.Proofs

theorem pok_mono {a b : Nat} {ps : List RI} (h : a ≤ b) (hp : Pok a ps) : Pok b ps := fun p hq => ⟨(hp p hq).1, Nat.le_trans (hp p hq).2 h⟩
end Go.Abs

set_option linter.unusedVariables false
set_option linter.unusedSimpArgs false
namespace Go.Abs
open Go Go.Proofs
set_option maxRecDepth 100000

end Go.Abs

set_option linter.unusedVariables false
set_option linter.unusedSimpArgs false
namespace Go.Abs
open Go Go.Proofs
def part (F : Nat → Int) (i k : Nat) : Int := if k < i then F k else 0
theorem part_zero (F : Nat → Int) (n : Nat) : mz (part F 0) n = List.replicate n (riz 0) := by
  rw [mz_zero]; exact mz_ext fun k _ => by unfold part; rw [if_neg (by omega)]
theorem part_set {F : Nat → Int} {i n : Nat} : (mz (part F i) n).set i (riz (F i)) = mz (part F (i + 1)) n := by
  refine mz_set (by unfold part; rw [if_pos (by omega)]) fun k hk _ => ?_
  unfold part
  by_cases c : k < i
  · rw [if_pos c, if_pos (by omega)]
  · rw [if_neg c, if_neg (by omega)]
theorem part_all (F : Nat → Int) (n : Nat) : mz (part F n) n = mz F n := mz_ext fun k hk => by unfold part; rw [if_pos hk]
theorem getD_none {ps : List RI} {k : Nat} (h : ps.length ≤ k) : ps.getD k (false, []) = (false, []) := by
  rw [List.getD_eq_getElem?_getD, List.getElem?_eq_none h]; rfl
end Go.Abs

set_option linter.unusedVariables false
set_option linter.unusedSimpArgs false
namespace Go.Abs
open Go Go.Proofs
set_option maxRecDepth 100000

end Go.Abs

set_option linter.unusedVariables false
set_option linter.unusedSimpArgs false
namespace Go.Abs
open Go Go.Proofs
set_option maxRecDepth 100000

theorem mz_ok {K : Nat} {F : Nat → Int} {n : Nat} (h : ∀ k, (F k).natAbs < 4294967296 ^ K) : Pok K (mz F n) := fun p hp => by
  simp only [mz, List.mem_map] at hp
  obtain ⟨k, _, rfl⟩ := hp
  exact riz_ok (h k)
theorem add_small {K : Nat} {x y : Int} (hx : x.natAbs < 4294967296 ^ K) (hy : y.natAbs < 4294967296 ^ K) : (x + y).natAbs < 4294967296 ^ (K + 1) ∧ (x - y).natAbs < 4294967296 ^ (K + 1) := by
  rw [Nat.pow_succ]
  generalize 4294967296 ^ K = X at *
  omega

end Go.Abs

set_option linter.unusedVariables false
set_option linter.unusedSimpArgs false
namespace Go.Abs
open Go Go.Proofs
set_option maxRecDepth 100000

def i64s (l : List Int) : List D := l.map fun d => D.int .i64 d
@[simp] theorem i64s_len (l : List Int) : (i64s l).length = l.length := by simp [i64s]
@[simp] theorem i64s_get (l : List Int) (i : Nat) : (i64s l)[i]? = (l[i]?).map fun d => D.int .i64 d := by simp [i64s]
abbrev In64 (l : List Int) : Prop := ∀ d ∈ l, -9223372036854775808 ≤ d ∧ d ≤ 9223372036854775807
theorem riz_i64 {z : Int} (h : -9223372036854775808 ≤ z ∧ z ≤ 9223372036854775807) : RIok 2 (riz z) := riz_ok (by omega)

theorem uof_fn (l : List Int) (hn : l.length ≤ 2 ^ 40) (hl64 : In64 l) : Fn Try.prog 51 [.d (.lst l.length (i64s l))] [] (.d (rp (can (fun k => l.getD k 0) l.length))) [] := by
  refine fn0 (nt := 24) (res := [.tmp 2]) Try.func51 rfl (by decide) rfl rfl rfl rfl ?_
  intro C hP hnt hl
  obtain ⟨F, hF⟩ : ∃ F : Nat → Int, F = fun k => l.getD k 0 := ⟨_, rfl⟩
  rw [← hF]
  refine awp_sx prog_ok hP hnt [] [] [] [0] (by kernel_rfl) (G := fun K => K (St.mk [(0, V.d (D.lst l.length (i64s l)))] [] 1)) (fun K => by kernel_rfl) ?_
  refine awp_sx prog_ok hP hnt [] [] [] [0, 3] (by kernel_rfl) (G := fun K => ((↑l.length : Int) = (↑l.length : Int) ∧ (0 : Int) ≤ (↑l.length : Int) ∧ (↑l.length : Int) * (↑32 : Int) ≤ (2 : Int) ^ 47) ∧ K (St.mk [(0, V.d (D.lst l.length (i64s l))), (3, V.own 3 0 (↑l.length : Int).toNat 2)] [(3, some (Blk.mk (zeros (↑l.length : Int).toNat (TI.mk (Kind.struct [(0, 1), (1, 1)]) 2 32 [D.bool false, D.lst 0 []]).zero) true))] 5)) (fun K => by kernel_rfl) ?_
  refine ⟨by omega, ?_⟩
  refine awp_cut (ι := Unit) (fun _ => ⟨[(3, .own 0 0 l.length 2)], [(0, some ⟨rc (mz F l.length), true⟩)], 1⟩) (fun _ => True) ?_ ?_
  · refine awp_sx prog_ok hP hnt [] [] [] [3, 9, 10, 11] (by kernel_rfl) (G := fun K => K (St.mk [(3, V.own 3 0 (↑l.length : Int).toNat 2), (9, V.d (D.lst l.length (i64s l))), (10, V.d (D.int IntKind.i64 (↑l.length : Int))), (11, V.d (D.int IntKind.i64 (0 : Int)))] [(3, some (Blk.mk (zeros (↑l.length : Int).toNat (TI.mk (Kind.struct [(0, 1), (1, 1)]) 2 32 [D.bool false, D.lst 0 []]).zero) true))] 8)) (fun K => by kernel_rfl) ?_
    refine awp_block ?_
    refine awp_loop (ι := Nat) (fun i => ⟨[(3, .own 0 0 l.length 2), (9, .d (.lst l.length (i64s l))), (10, .d (.int .i64 l.length)), (11, .d (.int .i64 i))], [(0, some ⟨rc (mz (part F i) l.length), true⟩)], 1⟩)
      (fun i => i ≤ l.length) (fun i => l.length - i) 0 [(0, 3)] (by simp) ?_ ?_
    · constructor <;> simp [hl, envOk, memOk, conv, St.get, St.blk, zeros_rc, part_zero]
    intro i hi
    refine awp_sx prog_ok hP hnt [] [] [] [3, 9, 10, 11, 12] (by kernel_rfl) (G := fun K => K (St.mk [(3, V.own 0 0 l.length 2), (9, V.d (D.lst l.length (i64s l))), (10, V.d (D.int IntKind.i64 (↑l.length : Int))), (11, V.d (D.int IntKind.i64 (↑i : Int))), (12, V.d (D.bool (decide ((↑i : Int) < (↑l.length : Int)))))] [(0, some (Blk.mk (rc (mz (part F i) l.length)) true))] 2)) (fun K => by kernel_rfl) ?_
    refine awp_seq_k fun K1 hK1 => ?_
    refine awp_cond rfl (fun h => awp_skip (hK1 _ ?_)) (fun h => awp_exit ⟨(), [(0, 0)], trivial, ?_⟩)
    · simp at h
      obtain ⟨z, hz⟩ := get_ex (l := l) (i := i) (by omega)
      have hzF : F i = z := by rw [hF]; simp only; rw [List.getD_eq_getElem?_getD, hz]; rfl
      have hz64 := hl64 z (List.mem_of_getElem? hz)
      refine awp_seq_k fun K2 hK2 => ?_
      refine awp_block ?_
      refine awp_sx prog_ok hP hnt [] [] [some [.int .i64 z]] [3, 4, 5, 9, 10, 11] (by kernel_rfl) (G := fun K => ((0 : Int) ≤ (↑i : Int) ∧ (↑i : Int) < (↑l.length : Int) ∧ ((↑i : Int).toNat + 1) * 1 ≤ (i64s l).length) ∧ (List.drop ((↑i : Int).toNat * 1) (i64s l))[0]? = some (D.int IntKind.i64 z) ∧ K (St.mk [(3, V.own 0 0 l.length 2), (9, V.d (D.lst l.length (i64s l))), (10, V.d (D.int IntKind.i64 (↑l.length : Int))), (11, V.d (D.int IntKind.i64 (↑i : Int))), (4, V.d (D.int IntKind.i64 (↑i : Int))), (5, V.d (D.int IntKind.i64 z))] [(0, some (Blk.mk (rc (mz (part F i) l.length)) true))] 7)) (fun K => by kernel_rfl) ?_
      refine ⟨⟨by omega, by omega, by simp; omega⟩, by simp [hz], ?_⟩
      refine awp_x prog_ok hP hnt [] [.val (.agg (iz z))] [] [3, 9, 10, 11] (by kernel_rfl) (G := fun K => Fn Try.prog 74 [V.d (D.int IntKind.i64 z)] [] (V.agg [D.bool (decide (z < (0 : Int))), du (dig z.natAbs)]) [] ∧ ((0 : Int) ≤ (↑i : Int) ∧ (↑i : Int) < (↑l.length : Int)) ∧ 0 + (↑i : Int).toNat * 2 + (iz z).length ≤ (rc (mz (part F i) l.length)).length ∧ K (St.mk [(3, V.own 0 0 l.length 2), (9, V.d (D.lst l.length (i64s l))), (10, V.d (D.int IntKind.i64 (↑l.length : Int))), (11, V.d (D.int IntKind.i64 (↑i : Int)))] [(0, some (Blk.mk (setCells (rc (mz (part F i) l.length)) (0 + (↑i : Int).toNat * 2) (iz z)) true))] 13)) (fun K => by kernel_rfl) ?_
      have hsc := setCells_rc (mz (part F i) l.length) i (riz (F i))
      rw [part_set, ic_riz, hzF] at hsc
      refine ⟨iOf_fn z hz64.1 hz64.2, ⟨by omega, by omega⟩, ?_, hK2 _ ?_⟩
      · rw [rc_len, mz_len, Int.toNat_natCast, Nat.zero_add]; show i * 2 + 2 ≤ l.length * 2; omega
      refine awp_x prog_ok hP hnt [(21, .int .i64 (i + 1 : Nat))] [] [] [3, 9, 10, 11] (by kernel_rfl) (G := fun K => IntKind.i64.wrap ((↑i : Int) + (1 : Int)) = (↑(i + 1) : Int) ∧ K (St.mk [(3, V.own 0 0 l.length 2), (9, V.d (D.lst l.length (i64s l))), (10, V.d (D.int IntKind.i64 (↑l.length : Int))), (11, V.d (D.int IntKind.i64 (↑(i + 1) : Int)))] [(0, some (Blk.mk (setCells (rc (mz (part F i) l.length)) (0 + (↑i : Int).toNat * 2) (iz z)) true))] 15)) (fun K => by kernel_rfl) ?_
      refine ⟨by rw [w64] <;> omega, i + 1, [(0, 0)], ⟨by omega, by omega⟩, ?_⟩
      rw [Int.toNat_natCast, Nat.zero_add, hsc]
      constructor <;> simp [hl, envOk, memOk, conv, St.get, St.blk]
    · simp at h
      have : i = l.length := by omega
      subst this
      constructor <;> simp [hl, envOk, memOk, conv, St.get, St.blk, part_all]
  intro _ _
  have hpok : Pok 2 (mz F l.length) := fun p hp => by
    simp only [mz, List.mem_map] at hp
    obtain ⟨k, hk, rfl⟩ := hp
    refine riz_i64 ?_
    obtain ⟨z, hz⟩ := get_ex (l := l) (i := k) (by simpa using hk)
    rw [hF]; simp only; rw [List.getD_eq_getElem?_getD, hz]
    exact hl64 z (List.mem_of_getElem? hz)
  have ht := utrim_fn (mz F l.length) (by simp; omega) (pok_mono (by omega) hpok)
  rw [rtrim_mz] at ht
  refine awp_sx prog_ok hP hnt [] [.val (.d (rp (can F l.length)))] [] [2] (by kernel_rfl) (G := fun K => Fn Try.prog 161 [V.d (D.lst l.length (List.take (l.length * 2) (List.drop 0 (rc (mz F l.length)))))] [] (V.d (rp (can F l.length))) [] ∧ K (St.mk [(2, V.d (rp (can F l.length)))] [(0, some (Blk.mk (rc (mz F l.length)) false))] 4)) (fun K => by kernel_rfl) ?_
  refine ⟨?_, awp_ret ⟨.inl rfl, retD rfl⟩⟩
  rw [own_rp (by simp)]
  exact ht
end Go.Abs

set_option linter.unusedVariables false
set_option linter.unusedSimpArgs false
namespace Go.Abs
open Go Go.Proofs
set_option maxRecDepth 100000

def few (a b : Nat) (ps : List RI) : Bool := decide (ps.length ≤ a ∧ ∀ p ∈ ps, p.2.length ≤ b)

theorem few_fn (a b : Nat) (ps : List RI) (ha : a ≤ 2 ^ 40) (hb : b ≤ 2 ^ 40) : Fn Try.prog 39 [.d (.int .i64 a), .d (.int .i64 b), .d (rp ps)] [] (.d (.bool (few a b ps))) [] := by
  refine fn0 (nt := 26) (res := [.tmp 6]) Try.func39 rfl (by decide) rfl rfl rfl rfl ?_
  intro C hP hnt hl
  refine awp_sx prog_ok hP hnt [] [] [] [0, 1, 2] (by kernel_rfl) (G := fun K => K (St.mk [(0, V.d (D.int IntKind.i64 (↑a : Int))), (1, V.d (D.int IntKind.i64 (↑b : Int))), (2, V.d (rp ps))] [] 1)) (fun K => by kernel_rfl) ?_
  refine awp_seq_k fun K hK => ?_
  refine awp_sx prog_ok hP hnt [] [] [] [1, 2, 11] (by kernel_rfl) (G := fun K => K (St.mk [(1, V.d (D.int IntKind.i64 (↑b : Int))), (2, V.d (rp ps)), (11, V.d (D.bool (decide ((↑ps.length : Int) > (↑a : Int)))))] [] 5)) (fun K => by kernel_rfl) ?_
  refine awp_cond rfl (fun h => ?_) (fun h => awp_skip (hK _ ?_))
  · simp at h
    refine awp_sx prog_ok hP hnt [] [] [] [6] (by kernel_rfl) (G := fun K => K (St.mk [(6, V.d (D.bool false))] [] 6)) (fun K => by kernel_rfl) ?_
    refine awp_ret ⟨.inl rfl, retD ?_⟩
    rw [few, decide_eq_false (by omega)]; rfl
  simp at h
  refine awp_cut (ι := Unit) (fun _ => ⟨[], [], 0⟩) (fun _ => few a b ps = true) ?_ ?_
  · refine awp_sx prog_ok hP hnt [] [] [] [1, 2, 7] (by kernel_rfl) (G := fun K => K (St.mk [(1, V.d (D.int IntKind.i64 (↑b : Int))), (2, V.d (rp ps)), (7, V.d (D.int IntKind.i64 (0 : Int)))] [] 6)) (fun K => by kernel_rfl) ?_
    refine awp_block ?_
    refine awp_loop (ι := Nat) (fun i => ⟨[(1, .d (.int .i64 b)), (2, .d (rp ps)), (7, .d (.int .i64 i))], [], 0⟩)
      (fun i => i ≤ ps.length ∧ ∀ k p, k < i → ps[k]? = some p → p.2.length ≤ b) (fun i => ps.length - i) 0 [] (by simp) ?_ ?_
    · constructor <;> simp [hl, envOk, memOk, conv, St.get, St.blk]
    intro i ⟨hi, hall⟩
    refine awp_seq_k fun K1 hK1 => ?_
    refine awp_sx prog_ok hP hnt [] [] [] [1, 2, 7, 15] (by kernel_rfl) (G := fun K => K (St.mk [(1, V.d (D.int IntKind.i64 (↑b : Int))), (2, V.d (rp ps)), (7, V.d (D.int IntKind.i64 (↑i : Int))), (15, V.d (D.bool (decide ((↑i : Int) < (↑ps.length : Int)))))] [] 4)) (fun K => by kernel_rfl) ?_
    refine awp_cond rfl (fun h => awp_skip (hK1 _ ?_)) (fun h => awp_exit ⟨(), [], ?_, ?_⟩)
    · simp at h
      obtain ⟨p, hp1⟩ := get_ex (l := ps) (i := i) (by omega)
      refine awp_seq_k fun K2 hK2 => ?_
      refine awp_block ?_
      refine awp_sx prog_ok hP hnt [] [] [some [du p.2]] [1, 2, 7, 25] (by kernel_rfl) (G := fun K => ((0 : Int) ≤ (↑i : Int) ∧ (↑i : Int) < (↑ps.length : Int) ∧ ((↑i : Int).toNat + 1) * 2 ≤ (rc ps).length) ∧ (List.drop 1 (List.drop ((↑i : Int).toNat * 2) (rc ps)))[0]? = some (du p.snd) ∧ K (St.mk [(1, V.d (D.int IntKind.i64 (↑b : Int))), (2, V.d (rp ps)), (7, V.d (D.int IntKind.i64 (↑i : Int))), (25, V.d (D.bool (decide ((↑p.snd.length : Int) > (↑b : Int)))))] [] 12)) (fun K => by kernel_rfl) ?_
      refine ⟨⟨by omega, by omega, by simp; omega⟩, by rw [Int.toNat_natCast, rc_at hp1]; rfl, ?_⟩
      refine awp_cond rfl (fun h2 => ?_) (fun h2 => awp_skip (hK2 _ ?_))
      · simp at h2
        refine awp_sx prog_ok hP hnt [] [] [] [6] (by kernel_rfl) (G := fun K => K (St.mk [(6, V.d (D.bool false))] [] 13)) (fun K => by kernel_rfl) ?_
        refine awp_ret ⟨.inl rfl, retD ?_⟩
        rw [few, decide_eq_false (fun hh => by have := hh.2 p (List.mem_of_getElem? hp1); omega)]; rfl
      · simp at h2
        refine awp_x prog_ok hP hnt [(17, .int .i64 (i + 1 : Nat))] [] [] [1, 2, 7] (by kernel_rfl) (G := fun K => IntKind.i64.wrap ((↑i : Int) + (1 : Int)) = (↑(i + 1) : Int) ∧ K (St.mk [(1, V.d (D.int IntKind.i64 (↑b : Int))), (2, V.d (rp ps)), (7, V.d (D.int IntKind.i64 (↑(i + 1) : Int)))] [] 15)) (fun K => by kernel_rfl) ?_
        refine ⟨by rw [w64] <;> omega, i + 1, [], ⟨⟨by omega, fun k q hk hq => ?_⟩, by omega⟩, ?_⟩
        · by_cases e : k = i
          · subst e; rw [hp1] at hq; cases hq; exact h2
          · exact hall k q (by omega) hq
        constructor <;> simp [hl, envOk, memOk, conv, St.get, St.blk]
    · simp at h
      refine decide_eq_true ⟨by omega, fun p hp => ?_⟩
      obtain ⟨k, hk, e⟩ := List.getElem_of_mem hp
      exact hall k p (by omega) (by rw [← e]; simp [hk])
    · constructor <;> simp [hl, envOk, memOk, conv, St.get, St.blk]
  intro _ hf
  refine awp_sx prog_ok hP hnt [] [] [] [6] (by kernel_rfl) (G := fun K => K (St.mk [(6, V.d (D.bool true))] [] 1)) (fun K => by kernel_rfl) ?_
  refine awp_ret ⟨.inl rfl, retD ?_⟩
  rw [hf]; rfl
end Go.Abs

set_option linter.unusedVariables false
set_option linter.unusedSimpArgs false
namespace Go.Abs
open Go Go.Proofs
set_option maxRecDepth 100000

theorem can_11 : can (fun k => ([1, 1] : List Int).getD k 0) 2 = [riz 1, riz 1] := by
  simp [can, zdeg, mz, List.range_succ]
theorem can_1m : can (fun k => ([1, -1] : List Int).getD k 0) 2 = [riz 1, riz (-1)] := by
  simp [can, zdeg, mz, List.range_succ]
theorem can_awake : can (mulC (co [riz 1, riz 1]) (co [riz 1, riz (-1)]) 2) 4 = [riz 1, riz 0, riz (-1)] := by
  have c0 : co [riz 1, riz 1] 0 = 1 := rval_riz 1
  have c1 : co [riz 1, riz 1] 1 = 1 := rval_riz 1
  have d0 : co [riz 1, riz (-1)] 0 = 1 := rval_riz 1
  have d1 : co [riz 1, riz (-1)] 1 = -1 := rval_riz (-1)
  have d2 : co [riz 1, riz (-1)] 2 = 0 := rfl
  have d3 : co [riz 1, riz (-1)] 3 = 0 := rfl
  simp [can, zdeg, mz, mulC, List.range_succ, c0, c1, d0, d1, d2, d3]

theorem awake_fn : Fn Try.prog 38 [] [] (.d (.bool true)) [] := by
  refine fn0 (nt := 30) (res := [.tmp 0]) Try.func38 rfl (by decide) rfl rfl rfl rfl ?_
  intro C hP hnt hl
  have h1 := uof_fn [1, 1] (by simp) (by intro d hd; simp at hd; omega)
  have h2 := uof_fn [1, -1] (by simp) (by intro d hd; simp at hd; omega)
  have h3 := umul_fn 2 [riz 1, riz 1] [riz 1, riz (-1)] (by omega) (by simp) (by simp)
    (by intro p hp; simp at hp; subst hp; exact riz_i64 (by omega)) (by intro p hp; simp at hp; rcases hp with rfl | rfl <;> exact riz_i64 (by omega))
  have e1 : can (fun k => ([1, 1] : List Int).getD k 0) ([1, 1] : List Int).length = [riz 1, riz 1] := can_11
  have e2 : can (fun k => ([1, -1] : List Int).getD k 0) ([1, -1] : List Int).length = [riz 1, riz (-1)] := can_1m
  have e3 : can (mulC (co [riz 1, riz 1]) (co [riz 1, riz (-1)]) [riz 1, riz 1].length) ([riz 1, riz 1].length + [riz 1, riz (-1)].length) = [riz 1, riz 0, riz (-1)] := can_awake
  rw [e1] at h1
  rw [e2] at h2
  rw [e3] at h3
  refine awp_sx prog_ok hP hnt [] [] [] [] (by kernel_rfl) (G := fun K => K (St.mk [] [] 1)) (fun K => by kernel_rfl) ?_
  refine awp_sx prog_ok hP hnt [] [.val (.d (rp [riz 1, riz 1])), .val (.d (rp [riz 1, riz (-1)])), .val (.d (rp [riz 1, riz 0, riz (-1)]))] [] [1] (by kernel_rfl) (G := fun K => Fn Try.prog 51 [V.d (D.lst 2 [D.int IntKind.i64 (1 : Int), D.int IntKind.i64 (1 : Int)])] [] (V.d (rp [riz (1 : Int), riz (1 : Int)])) [] ∧ Fn Try.prog 51 [V.d (D.lst 2 [D.int IntKind.i64 (1 : Int), D.int IntKind.i64 (-1 : Int)])] [] (V.d (rp [riz (1 : Int), riz (-1 : Int)])) [] ∧ Fn Try.prog 44 [V.d (rp [riz (1 : Int), riz (1 : Int)]), V.d (rp [riz (1 : Int), riz (-1 : Int)])] [] (V.d (rp [riz (1 : Int), riz (0 : Int), riz (-1 : Int)])) [] ∧ K (St.mk [(1, V.d (rp [riz (1 : Int), riz (0 : Int), riz (-1 : Int)]))] [] 7)) (fun K => by kernel_rfl) ?_
  refine ⟨h1, h2, h3, ?_⟩
  have hm1 : RIok 2 (riz (-1)) := riz_i64 (by omega)
  have h0 : RIok 2 (riz 0) := riz_i64 (by omega)
  have hs := same_fn (riz (-1)).1 (riz (-1)).1 (riz (-1)).2 (riz (-1)).2 (Nat.le_trans hm1.2 (by omega)) (Nat.le_trans hm1.2 (by omega)) hm1.1 hm1.1
  rw [decide_eq_true rfl] at hs
  have hg := sign_fn (riz 0).1 (riz 0).2 (Nat.le_trans h0.2 (by omega)) h0.1
  rw [show ival (riz 0).1 (riz 0).2 = 0 from rval_riz 0] at hg
  refine awp_sx prog_ok hP hnt [(10, .bool true), (17, .bool true)] [.val (.agg (iz (-1))), .val (.d (.bool true)), .val (.d (.int .i64 0))] [some (iz (-1)), some (iz 0), some [.bool true]] [0] (by kernel_rfl) (G := fun K => ((↑[riz (1 : Int), riz (0 : Int), riz (-1 : Int)].length : Int) == (3 : Int)) = true ∧ ((0 : Int) ≤ (2 : Int) ∧ (2 : Int) < (↑[riz (1 : Int), riz (0 : Int), riz (-1 : Int)].length : Int) ∧ 6 ≤ (rc [riz (1 : Int), riz (0 : Int), riz (-1 : Int)]).length) ∧ ((List.drop 4 (rc [riz (1 : Int), riz (0 : Int), riz (-1 : Int)]))[0]? = some (D.bool (decide ((-1 : Int) < (0 : Int)))) ∧ (List.drop 4 (rc [riz (1 : Int), riz (0 : Int), riz (-1 : Int)]))[1]? = some (du (dig (-1 : Int).natAbs))) ∧ Fn Try.prog 74 [V.d (D.int IntKind.i64 (-1 : Int))] [] (V.agg [D.bool (decide ((-1 : Int) < (0 : Int))), du (dig (-1 : Int).natAbs)]) [] ∧ Fn Try.prog 122 [V.agg [D.bool (decide ((-1 : Int) < (0 : Int))), du (dig (-1 : Int).natAbs)], V.agg [D.bool (decide ((-1 : Int) < (0 : Int))), du (dig (-1 : Int).natAbs)]] [] (V.d (D.bool true)) [] ∧ true = true ∧ ((0 : Int) ≤ (1 : Int) ∧ (1 : Int) < (↑[riz (1 : Int), riz (0 : Int), riz (-1 : Int)].length : Int) ∧ 4 ≤ (rc [riz (1 : Int), riz (0 : Int), riz (-1 : Int)]).length) ∧ ((List.drop 2 (rc [riz (1 : Int), riz (0 : Int), riz (-1 : Int)]))[0]? = some (D.bool (decide ((0 : Int) < (0 : Int)))) ∧ (List.drop 2 (rc [riz (1 : Int), riz (0 : Int), riz (-1 : Int)]))[1]? = some (du (dig (Int.natAbs (0 : Int))))) ∧ Fn Try.prog 102 [V.agg [D.bool (decide ((0 : Int) < (0 : Int))), du (dig (Int.natAbs (0 : Int)))]] [] (V.d (D.int IntKind.i64 (0 : Int))) [] ∧ ((0 : Int) ≤ (2 : Int) ∧ (2 : Int) < (↑[riz (1 : Int), riz (0 : Int), riz (-1 : Int)].length : Int) ∧ 6 ≤ (rc [riz (1 : Int), riz (0 : Int), riz (-1 : Int)]).length) ∧ (List.drop 0 (List.drop 4 (rc [riz (1 : Int), riz (0 : Int), riz (-1 : Int)])))[0]? = some (D.bool true) ∧ K (St.mk [(0, V.d (D.bool true))] [] 31)) (fun K => by kernel_rfl) ?_
  exact ⟨rfl, ⟨by omega, by simp, by simp⟩, ⟨rfl, rfl⟩, iOf_fn (-1) (by omega) (by omega), hs, rfl, ⟨by omega, by simp, by simp⟩, ⟨rfl, rfl⟩, hg, ⟨by omega, by simp, by simp⟩, rfl, awp_ret ⟨.inl rfl, retD rfl⟩⟩
end Go.Abs

set_option linter.unusedVariables false
set_option linter.unusedSimpArgs false
namespace Go.Abs

/-! ### The Cauchy product of two sequences -/
def cv (f g : Nat → Int) : Nat → Int
  | 0 => f 0 * g 0
  | k + 1 => f 0 * g (k + 1) + cv (fun i => f (i + 1)) g k

theorem cv_right (f g : Nat → Int) (k : Nat) : cv f g (k + 1) = cv f (fun i => g (i + 1)) k + f (k + 1) * g 0 := by
  induction k generalizing f with
  | zero => simp only [cv]
  | succ k ih =>
    rw [cv, ih, cv]
    omega
theorem cv_comm (f g : Nat → Int) (k : Nat) : cv f g k = cv g f k := by
  induction k generalizing f g with
  | zero => simp only [cv]; exact Int.mul_comm _ _
  | succ k ih =>
    rw [cv, cv_right, ih, Int.mul_comm]; omega
end Go.Abs
