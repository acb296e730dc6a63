/- The table of types is the program's. -/
import Derived.Test.YtnibdgjlbhdmfaaEvTy
namespace Go.Proofs.Ytnibdgjlbhdmfaa.Ev
open Go
set_option linter.unusedVariables false
set_option linter.unusedSimpArgs false
theorem case5 {α : Type} {p : Nat → α → Prop} : ∀ (l : List α) (k : Nat), (∀ x, x ∈ l.zipIdx k → p x.2 x.1) → ∀ (i : Nat) a, l[i]? = some a → p (k + i) a
  | [], k, h, i, a, e => by simp at e
  | x :: l, k, h, 0, a, e => by cases e; exact h (x, k) (by simp [List.zipIdx])
  | x :: l, k, h, i + 1, a, e => by
    have := case5 l (k + 1) (fun y hy => h y (by simp only [List.zipIdx]; exact List.mem_cons_of_mem _ hy)) i a (by simpa using e)
    rwa [show k + (i + 1) = k + 1 + i by omega]
theorem info2 : Try.prog.info? 2 = some Try.t2 := by kernel_rfl
theorem info3 : Try.prog.info? 3 = some Try.t3 := by kernel_rfl
theorem info4 : Try.prog.info? 4 = some Try.t4 := by kernel_rfl
theorem info5 : Try.prog.info? 5 = some Try.t5 := by kernel_rfl
theorem info6 : Try.prog.info? 6 = some Try.t6 := by kernel_rfl
theorem info7 : Try.prog.info? 7 = some Try.t7 := by kernel_rfl
theorem info8 : Try.prog.info? 8 = some Try.t8 := by kernel_rfl
theorem info9 : Try.prog.info? 9 = some Try.t9 := by kernel_rfl
theorem info10 : Try.prog.info? 10 = some Try.t10 := by kernel_rfl
theorem info11 : Try.prog.info? 11 = some Try.t11 := by kernel_rfl
theorem info12 : Try.prog.info? 12 = some Try.t12 := by kernel_rfl
theorem info13 : Try.prog.info? 13 = some Try.t13 := by kernel_rfl
theorem info14 : Try.prog.info? 14 = some Try.t14 := by kernel_rfl
theorem info15 : Try.prog.info? 15 = some Try.t15 := by kernel_rfl
theorem info16 : Try.prog.info? 16 = some Try.t16 := by kernel_rfl
theorem info17 : Try.prog.info? 17 = some Try.t17 := by kernel_rfl
theorem info18 : Try.prog.info? 18 = some Try.t18 := by kernel_rfl
theorem info19 : Try.prog.info? 19 = some Try.t19 := by kernel_rfl
theorem info21 : Try.prog.info? 21 = some Try.t21 := by kernel_rfl
theorem info22 : Try.prog.info? 22 = some Try.t22 := by kernel_rfl
theorem info24 : Try.prog.info? 24 = some Try.t24 := by kernel_rfl
theorem info26 : Try.prog.info? 26 = some Try.t26 := by kernel_rfl
theorem info27 : Try.prog.info? 27 = some Try.t27 := by kernel_rfl
theorem info28 : Try.prog.info? 28 = some Try.t28 := by kernel_rfl
theorem info29 : Try.prog.info? 29 = some Try.t29 := by kernel_rfl
theorem info30 : Try.prog.info? 30 = some Try.t30 := by kernel_rfl
theorem info31 : Try.prog.info? 31 = some Try.t31 := by kernel_rfl
theorem info32 : Try.prog.info? 32 = some Try.t32 := by kernel_rfl
theorem info41 : Try.prog.info? 41 = some Try.t41 := by kernel_rfl
theorem info43 : Try.prog.info? 43 = some Try.t43 := by kernel_rfl
theorem info44 : Try.prog.info? 44 = some Try.t44 := by kernel_rfl
theorem info47 : Try.prog.info? 47 = some Try.t47 := by kernel_rfl
theorem info48 : Try.prog.info? 48 = some Try.t48 := by kernel_rfl
theorem info49 : Try.prog.info? 49 = some Try.t49 := by kernel_rfl
theorem info50 : Try.prog.info? 50 = some Try.t50 := by kernel_rfl
theorem info51 : Try.prog.info? 51 = some Try.t51 := by kernel_rfl
theorem info54 : Try.prog.info? 54 = some Try.t54 := by kernel_rfl
theorem info64 : Try.prog.info? 64 = some Try.t64 := by kernel_rfl
theorem info72 : Try.prog.info? 72 = some Try.t72 := by kernel_rfl
theorem info73 : Try.prog.info? 73 = some Try.t73 := by kernel_rfl
theorem info78 : Try.prog.info? 78 = some Try.t78 := by kernel_rfl
theorem info79 : Try.prog.info? 79 = some Try.t79 := by kernel_rfl
theorem info80 : Try.prog.info? 80 = some Try.t80 := by kernel_rfl
theorem info83 : Try.prog.info? 83 = some Try.t83 := by kernel_rfl
theorem info84 : Try.prog.info? 84 = some Try.t84 := by kernel_rfl
theorem info85 : Try.prog.info? 85 = some Try.t85 := by kernel_rfl
theorem info86 : Try.prog.info? 86 = some Try.t86 := by kernel_rfl
theorem info87 : Try.prog.info? 87 = some Try.t87 := by kernel_rfl
theorem info88 : Try.prog.info? 88 = some Try.t88 := by kernel_rfl
theorem info89 : Try.prog.info? 89 = some Try.t89 := by kernel_rfl
theorem info90 : Try.prog.info? 90 = some Try.t90 := by kernel_rfl
theorem info91 : Try.prog.info? 91 = some Try.t91 := by kernel_rfl
theorem und2 : Try.prog.underlying 2 = some Try.t2.desc := by kernel_rfl
theorem und3 : Try.prog.underlying 3 = some Try.t3.desc := by kernel_rfl
theorem und4 : Try.prog.underlying 4 = some Try.t4.desc := by kernel_rfl
theorem und5 : Try.prog.underlying 5 = some Try.t5.desc := by kernel_rfl
theorem und6 : Try.prog.underlying 6 = some Try.t5.desc := by kernel_rfl
theorem und7 : Try.prog.underlying 7 = some Try.t7.desc := by kernel_rfl
theorem und8 : Try.prog.underlying 8 = some Try.t7.desc := by kernel_rfl
theorem und9 : Try.prog.underlying 9 = some Try.t9.desc := by kernel_rfl
theorem und10 : Try.prog.underlying 10 = some Try.t9.desc := by kernel_rfl
theorem und11 : Try.prog.underlying 11 = some Try.t9.desc := by kernel_rfl
theorem und12 : Try.prog.underlying 12 = some Try.t12.desc := by kernel_rfl
theorem und13 : Try.prog.underlying 13 = some Try.t13.desc := by kernel_rfl
theorem und14 : Try.prog.underlying 14 = some Try.t13.desc := by kernel_rfl
theorem und15 : Try.prog.underlying 15 = some Try.t15.desc := by kernel_rfl
theorem und16 : Try.prog.underlying 16 = some Try.t16.desc := by kernel_rfl
theorem und17 : Try.prog.underlying 17 = some Try.t17.desc := by kernel_rfl
theorem und18 : Try.prog.underlying 18 = some Try.t18.desc := by kernel_rfl
theorem und19 : Try.prog.underlying 19 = some Try.t18.desc := by kernel_rfl
theorem und21 : Try.prog.underlying 21 = some Try.t21.desc := by kernel_rfl
theorem und22 : Try.prog.underlying 22 = some Try.t22.desc := by kernel_rfl
theorem und24 : Try.prog.underlying 24 = some Try.t24.desc := by kernel_rfl
theorem und26 : Try.prog.underlying 26 = some Try.t26.desc := by kernel_rfl
theorem und27 : Try.prog.underlying 27 = some Try.t27.desc := by kernel_rfl
theorem und28 : Try.prog.underlying 28 = some Try.t28.desc := by kernel_rfl
theorem und29 : Try.prog.underlying 29 = some Try.t28.desc := by kernel_rfl
theorem und30 : Try.prog.underlying 30 = some Try.t30.desc := by kernel_rfl
theorem und31 : Try.prog.underlying 31 = some Try.t31.desc := by kernel_rfl
theorem und32 : Try.prog.underlying 32 = some Try.t31.desc := by kernel_rfl
theorem und41 : Try.prog.underlying 41 = some Try.t41.desc := by kernel_rfl
theorem und43 : Try.prog.underlying 43 = some Try.t43.desc := by kernel_rfl
theorem und44 : Try.prog.underlying 44 = some Try.t3.desc := by kernel_rfl
theorem und47 : Try.prog.underlying 47 = some Try.t47.desc := by kernel_rfl
theorem und48 : Try.prog.underlying 48 = some Try.t48.desc := by kernel_rfl
theorem und49 : Try.prog.underlying 49 = some Try.t48.desc := by kernel_rfl
theorem und50 : Try.prog.underlying 50 = some Try.t50.desc := by kernel_rfl
theorem und51 : Try.prog.underlying 51 = some Try.t50.desc := by kernel_rfl
theorem und54 : Try.prog.underlying 54 = some Try.t54.desc := by kernel_rfl
theorem und64 : Try.prog.underlying 64 = some Try.t64.desc := by kernel_rfl
theorem und72 : Try.prog.underlying 72 = some Try.t72.desc := by kernel_rfl
theorem und73 : Try.prog.underlying 73 = some Try.t72.desc := by kernel_rfl
theorem und78 : Try.prog.underlying 78 = some Try.t78.desc := by kernel_rfl
theorem und79 : Try.prog.underlying 79 = some Try.t78.desc := by kernel_rfl
theorem und80 : Try.prog.underlying 80 = some Try.t80.desc := by kernel_rfl
theorem und83 : Try.prog.underlying 83 = some Try.t83.desc := by kernel_rfl
theorem und84 : Try.prog.underlying 84 = some Try.t5.desc := by kernel_rfl
theorem und85 : Try.prog.underlying 85 = some Try.t5.desc := by kernel_rfl
theorem und87 : Try.prog.underlying 87 = some Try.t87.desc := by kernel_rfl
theorem und88 : Try.prog.underlying 88 = some Try.t21.desc := by kernel_rfl
theorem und89 : Try.prog.underlying 89 = some Try.t21.desc := by kernel_rfl
theorem und90 : Try.prog.underlying 90 = some Try.t90.desc := by kernel_rfl
theorem und91 : Try.prog.underlying 91 = some Try.t90.desc := by kernel_rfl
theorem dok : ∀ t i, tiA t = some i → ∃ d, Try.prog.underlying t = some d ∧ DOk (fun t z => ∃ j, Try.prog.info? t = some j ∧ j.size = z) i.d d := by
  intro t i h
  unfold tiA at h
  split at h
  · cases h
    exact ⟨_, und2, rfl⟩
  · cases h
    exact ⟨_, und3, rfl⟩
  · cases h
    exact ⟨_, und4, trivial⟩
  · cases h
    exact ⟨_, und5, rfl⟩
  · cases h
    exact ⟨_, und6, rfl⟩
  · cases h
    refine ⟨_, und7, rfl, fun i p h => ?_⟩
    have hl : i < 4 := get_lt h
    match i, hl with
    | 0, _ => cases h; exact ⟨_, rfl, rfl, rfl, _, ⟨_, info2, rfl⟩, by decide⟩
    | 1, _ => cases h; exact ⟨_, rfl, rfl, rfl, _, ⟨_, info3, rfl⟩, by decide⟩
    | 2, _ => cases h; exact ⟨_, rfl, rfl, rfl, _, ⟨_, info4, rfl⟩, by decide⟩
    | 3, _ => cases h; exact ⟨_, rfl, rfl, rfl, _, ⟨_, info6, rfl⟩, by decide⟩
  · cases h
    refine ⟨_, und8, rfl, fun i p h => ?_⟩
    have hl : i < 4 := get_lt h
    match i, hl with
    | 0, _ => cases h; exact ⟨_, rfl, rfl, rfl, _, ⟨_, info2, rfl⟩, by decide⟩
    | 1, _ => cases h; exact ⟨_, rfl, rfl, rfl, _, ⟨_, info3, rfl⟩, by decide⟩
    | 2, _ => cases h; exact ⟨_, rfl, rfl, rfl, _, ⟨_, info4, rfl⟩, by decide⟩
    | 3, _ => cases h; exact ⟨_, rfl, rfl, rfl, _, ⟨_, info6, rfl⟩, by decide⟩
  · cases h
    exact ⟨_, und9, trivial⟩
  · cases h
    exact ⟨_, und10, trivial⟩
  · cases h
    exact ⟨_, und11, trivial⟩
  · cases h
    exact ⟨_, und12, rfl⟩
  · cases h
    refine ⟨_, und13, rfl, fun i p h => ?_⟩
    have hl : i < 2 := get_lt h
    match i, hl with
    | 0, _ => cases h; exact ⟨_, rfl, rfl, rfl, _, ⟨_, info9, rfl⟩, by decide⟩
    | 1, _ => cases h; exact ⟨_, rfl, rfl, rfl, _, ⟨_, info12, rfl⟩, by decide⟩
  · cases h
    refine ⟨_, und14, rfl, fun i p h => ?_⟩
    have hl : i < 2 := get_lt h
    match i, hl with
    | 0, _ => cases h; exact ⟨_, rfl, rfl, rfl, _, ⟨_, info9, rfl⟩, by decide⟩
    | 1, _ => cases h; exact ⟨_, rfl, rfl, rfl, _, ⟨_, info12, rfl⟩, by decide⟩
  · cases h
    exact ⟨_, und15, rfl⟩
  · cases h
    exact ⟨_, und16, rfl⟩
  · cases h
    exact ⟨_, und17, rfl⟩
  · cases h
    refine ⟨_, und18, rfl, fun i p h => ?_⟩
    have hl : i < 1 := get_lt h
    match i, hl with
    | 0, _ => cases h; exact ⟨_, rfl, rfl, rfl, _, ⟨_, info17, rfl⟩, by decide⟩
  · cases h
    refine ⟨_, und19, rfl, fun i p h => ?_⟩
    have hl : i < 1 := get_lt h
    match i, hl with
    | 0, _ => cases h; exact ⟨_, rfl, rfl, rfl, _, ⟨_, info17, rfl⟩, by decide⟩
  · cases h
    exact ⟨_, und21, rfl⟩
  · cases h
    exact ⟨_, und22, rfl⟩
  · cases h
    exact ⟨_, und24, rfl⟩
  · cases h
    exact ⟨_, und26, rfl⟩
  · cases h
    exact ⟨_, und27, rfl⟩
  · cases h
    refine ⟨_, und28, rfl, fun i p h => ?_⟩
    have hl : i < 1 := get_lt h
    match i, hl with
    | 0, _ => cases h; exact ⟨_, rfl, rfl, rfl, _, ⟨_, info27, rfl⟩, by decide⟩
  · cases h
    refine ⟨_, und29, rfl, fun i p h => ?_⟩
    have hl : i < 1 := get_lt h
    match i, hl with
    | 0, _ => cases h; exact ⟨_, rfl, rfl, rfl, _, ⟨_, info27, rfl⟩, by decide⟩
  · cases h
    exact ⟨_, und30, rfl⟩
  · cases h
    refine ⟨_, und31, rfl, fun i p h => ?_⟩
    have hl : i < 5 := get_lt h
    match i, hl with
    | 0, _ => cases h; exact ⟨_, rfl, rfl, rfl, _, ⟨_, info3, rfl⟩, by decide⟩
    | 1, _ => cases h; exact ⟨_, rfl, rfl, rfl, _, ⟨_, info3, rfl⟩, by decide⟩
    | 2, _ => cases h; exact ⟨_, rfl, rfl, rfl, _, ⟨_, info2, rfl⟩, by decide⟩
    | 3, _ => cases h; exact ⟨_, rfl, rfl, rfl, _, ⟨_, info2, rfl⟩, by decide⟩
    | 4, _ => cases h; exact ⟨_, rfl, rfl, rfl, _, ⟨_, info30, rfl⟩, by decide⟩
  · cases h
    refine ⟨_, und32, rfl, fun i p h => ?_⟩
    have hl : i < 5 := get_lt h
    match i, hl with
    | 0, _ => cases h; exact ⟨_, rfl, rfl, rfl, _, ⟨_, info3, rfl⟩, by decide⟩
    | 1, _ => cases h; exact ⟨_, rfl, rfl, rfl, _, ⟨_, info3, rfl⟩, by decide⟩
    | 2, _ => cases h; exact ⟨_, rfl, rfl, rfl, _, ⟨_, info2, rfl⟩, by decide⟩
    | 3, _ => cases h; exact ⟨_, rfl, rfl, rfl, _, ⟨_, info2, rfl⟩, by decide⟩
    | 4, _ => cases h; exact ⟨_, rfl, rfl, rfl, _, ⟨_, info30, rfl⟩, by decide⟩
  · cases h
    exact ⟨_, und41, rfl⟩
  · cases h
    exact ⟨_, und43, rfl⟩
  · cases h
    exact ⟨_, und44, rfl⟩
  · cases h
    exact ⟨_, und47, rfl⟩
  · cases h
    refine ⟨_, und48, rfl, fun i p h => ?_⟩
    have hl : i < 1 := get_lt h
    match i, hl with
    | 0, _ => cases h; exact ⟨_, rfl, rfl, rfl, _, ⟨_, info47, rfl⟩, by decide⟩
  · cases h
    refine ⟨_, und49, rfl, fun i p h => ?_⟩
    have hl : i < 1 := get_lt h
    match i, hl with
    | 0, _ => cases h; exact ⟨_, rfl, rfl, rfl, _, ⟨_, info47, rfl⟩, by decide⟩
  · cases h
    refine ⟨_, und50, rfl, fun i p h => ?_⟩
    have hl : i < 2 := get_lt h
    match i, hl with
    | 0, _ => cases h; exact ⟨_, rfl, rfl, rfl, _, ⟨_, info9, rfl⟩, by decide⟩
    | 1, _ => cases h; exact ⟨_, rfl, rfl, rfl, _, ⟨_, info3, rfl⟩, by decide⟩
  · cases h
    refine ⟨_, und51, rfl, fun i p h => ?_⟩
    have hl : i < 2 := get_lt h
    match i, hl with
    | 0, _ => cases h; exact ⟨_, rfl, rfl, rfl, _, ⟨_, info9, rfl⟩, by decide⟩
    | 1, _ => cases h; exact ⟨_, rfl, rfl, rfl, _, ⟨_, info3, rfl⟩, by decide⟩
  · cases h
    exact ⟨_, und54, rfl⟩
  · cases h
    exact ⟨_, und64, rfl⟩
  · cases h
    refine ⟨_, und72, rfl, fun i p h => ?_⟩
    have hl : i < 1 := get_lt h
    match i, hl with
    | 0, _ => cases h; exact ⟨_, rfl, rfl, rfl, _, ⟨_, info27, rfl⟩, by decide⟩
  · cases h
    refine ⟨_, und73, rfl, fun i p h => ?_⟩
    have hl : i < 1 := get_lt h
    match i, hl with
    | 0, _ => cases h; exact ⟨_, rfl, rfl, rfl, _, ⟨_, info27, rfl⟩, by decide⟩
  · cases h
    refine ⟨_, und78, rfl, fun i p h => ?_⟩
    have hl : i < 4 := get_lt h
    match i, hl with
    | 0, _ => cases h; exact ⟨_, rfl, rfl, rfl, _, ⟨_, info17, rfl⟩, by decide⟩
    | 1, _ => cases h; exact ⟨_, rfl, rfl, rfl, _, ⟨_, info17, rfl⟩, by decide⟩
    | 2, _ => cases h; exact ⟨_, rfl, rfl, rfl, _, ⟨_, info17, rfl⟩, by decide⟩
    | 3, _ => cases h; exact ⟨_, rfl, rfl, rfl, _, ⟨_, info9, rfl⟩, by decide⟩
  · cases h
    refine ⟨_, und79, rfl, fun i p h => ?_⟩
    have hl : i < 4 := get_lt h
    match i, hl with
    | 0, _ => cases h; exact ⟨_, rfl, rfl, rfl, _, ⟨_, info17, rfl⟩, by decide⟩
    | 1, _ => cases h; exact ⟨_, rfl, rfl, rfl, _, ⟨_, info17, rfl⟩, by decide⟩
    | 2, _ => cases h; exact ⟨_, rfl, rfl, rfl, _, ⟨_, info17, rfl⟩, by decide⟩
    | 3, _ => cases h; exact ⟨_, rfl, rfl, rfl, _, ⟨_, info9, rfl⟩, by decide⟩
  · cases h
    exact ⟨_, und80, ⟨rfl, rfl⟩⟩
  · cases h
    exact ⟨_, und83, rfl⟩
  · cases h
    exact ⟨_, und84, rfl⟩
  · cases h
    exact ⟨_, und85, rfl⟩
  · cases h
    exact ⟨_, und87, rfl⟩
  · cases h
    exact ⟨_, und88, rfl⟩
  · cases h
    exact ⟨_, und89, rfl⟩
  · cases h
    refine ⟨_, und90, rfl, fun i p h => ?_⟩
    have hl : i < 11 := get_lt h
    match i, hl with
    | 0, _ => cases h; exact ⟨_, rfl, rfl, rfl, _, ⟨_, info12, rfl⟩, by decide⟩
    | 1, _ => cases h; exact ⟨_, rfl, rfl, rfl, _, ⟨_, info12, rfl⟩, by decide⟩
    | 2, _ => cases h; exact ⟨_, rfl, rfl, rfl, _, ⟨_, info83, rfl⟩, by decide⟩
    | 3, _ => cases h; exact ⟨_, rfl, rfl, rfl, _, ⟨_, info84, rfl⟩, by decide⟩
    | 4, _ => cases h; exact ⟨_, rfl, rfl, rfl, _, ⟨_, info5, rfl⟩, by decide⟩
    | 5, _ => cases h; exact ⟨_, rfl, rfl, rfl, _, ⟨_, info5, rfl⟩, by decide⟩
    | 6, _ => cases h; exact ⟨_, rfl, rfl, rfl, _, ⟨_, info85, rfl⟩, by decide⟩
    | 7, _ => cases h; exact ⟨_, rfl, rfl, rfl, _, ⟨_, info86, rfl⟩, by decide⟩
    | 8, _ => cases h; exact ⟨_, rfl, rfl, rfl, _, ⟨_, info87, rfl⟩, by decide⟩
    | 9, _ => cases h; exact ⟨_, rfl, rfl, rfl, _, ⟨_, info88, rfl⟩, by decide⟩
    | 10, _ => cases h; exact ⟨_, rfl, rfl, rfl, _, ⟨_, info89, rfl⟩, by decide⟩
  · cases h
    refine ⟨_, und91, rfl, fun i p h => ?_⟩
    have hl : i < 11 := get_lt h
    match i, hl with
    | 0, _ => cases h; exact ⟨_, rfl, rfl, rfl, _, ⟨_, info12, rfl⟩, by decide⟩
    | 1, _ => cases h; exact ⟨_, rfl, rfl, rfl, _, ⟨_, info12, rfl⟩, by decide⟩
    | 2, _ => cases h; exact ⟨_, rfl, rfl, rfl, _, ⟨_, info83, rfl⟩, by decide⟩
    | 3, _ => cases h; exact ⟨_, rfl, rfl, rfl, _, ⟨_, info84, rfl⟩, by decide⟩
    | 4, _ => cases h; exact ⟨_, rfl, rfl, rfl, _, ⟨_, info5, rfl⟩, by decide⟩
    | 5, _ => cases h; exact ⟨_, rfl, rfl, rfl, _, ⟨_, info5, rfl⟩, by decide⟩
    | 6, _ => cases h; exact ⟨_, rfl, rfl, rfl, _, ⟨_, info85, rfl⟩, by decide⟩
    | 7, _ => cases h; exact ⟨_, rfl, rfl, rfl, _, ⟨_, info86, rfl⟩, by decide⟩
    | 8, _ => cases h; exact ⟨_, rfl, rfl, rfl, _, ⟨_, info87, rfl⟩, by decide⟩
    | 9, _ => cases h; exact ⟨_, rfl, rfl, rfl, _, ⟨_, info88, rfl⟩, by decide⟩
    | 10, _ => cases h; exact ⟨_, rfl, rfl, rfl, _, ⟨_, info89, rfl⟩, by decide⟩
  · cases h
theorem iok : ∀ t i, tiA t = some i → ∃ j, Try.prog.info? t = some j ∧ j.size = i.sz ∧ j.bytes = i.bytes := by
  intro t i h
  unfold tiA at h
  split at h
  · cases h; exact ⟨_, info2, rfl, rfl⟩
  · cases h; exact ⟨_, info3, rfl, rfl⟩
  · cases h; exact ⟨_, info4, rfl, rfl⟩
  · cases h; exact ⟨_, info5, rfl, rfl⟩
  · cases h; exact ⟨_, info6, rfl, rfl⟩
  · cases h; exact ⟨_, info7, rfl, rfl⟩
  · cases h; exact ⟨_, info8, rfl, rfl⟩
  · cases h; exact ⟨_, info9, rfl, rfl⟩
  · cases h; exact ⟨_, info10, rfl, rfl⟩
  · cases h; exact ⟨_, info11, rfl, rfl⟩
  · cases h; exact ⟨_, info12, rfl, rfl⟩
  · cases h; exact ⟨_, info13, rfl, rfl⟩
  · cases h; exact ⟨_, info14, rfl, rfl⟩
  · cases h; exact ⟨_, info15, rfl, rfl⟩
  · cases h; exact ⟨_, info16, rfl, rfl⟩
  · cases h; exact ⟨_, info17, rfl, rfl⟩
  · cases h; exact ⟨_, info18, rfl, rfl⟩
  · cases h; exact ⟨_, info19, rfl, rfl⟩
  · cases h; exact ⟨_, info21, rfl, rfl⟩
  · cases h; exact ⟨_, info22, rfl, rfl⟩
  · cases h; exact ⟨_, info24, rfl, rfl⟩
  · cases h; exact ⟨_, info26, rfl, rfl⟩
  · cases h; exact ⟨_, info27, rfl, rfl⟩
  · cases h; exact ⟨_, info28, rfl, rfl⟩
  · cases h; exact ⟨_, info29, rfl, rfl⟩
  · cases h; exact ⟨_, info30, rfl, rfl⟩
  · cases h; exact ⟨_, info31, rfl, rfl⟩
  · cases h; exact ⟨_, info32, rfl, rfl⟩
  · cases h; exact ⟨_, info41, rfl, rfl⟩
  · cases h; exact ⟨_, info43, rfl, rfl⟩
  · cases h; exact ⟨_, info44, rfl, rfl⟩
  · cases h; exact ⟨_, info47, rfl, rfl⟩
  · cases h; exact ⟨_, info48, rfl, rfl⟩
  · cases h; exact ⟨_, info49, rfl, rfl⟩
  · cases h; exact ⟨_, info50, rfl, rfl⟩
  · cases h; exact ⟨_, info51, rfl, rfl⟩
  · cases h; exact ⟨_, info54, rfl, rfl⟩
  · cases h; exact ⟨_, info64, rfl, rfl⟩
  · cases h; exact ⟨_, info72, rfl, rfl⟩
  · cases h; exact ⟨_, info73, rfl, rfl⟩
  · cases h; exact ⟨_, info78, rfl, rfl⟩
  · cases h; exact ⟨_, info79, rfl, rfl⟩
  · cases h; exact ⟨_, info80, rfl, rfl⟩
  · cases h; exact ⟨_, info83, rfl, rfl⟩
  · cases h; exact ⟨_, info84, rfl, rfl⟩
  · cases h; exact ⟨_, info85, rfl, rfl⟩
  · cases h; exact ⟨_, info87, rfl, rfl⟩
  · cases h; exact ⟨_, info88, rfl, rfl⟩
  · cases h; exact ⟨_, info89, rfl, rfl⟩
  · cases h; exact ⟨_, info90, rfl, rfl⟩
  · cases h; exact ⟨_, info91, rfl, rfl⟩
  · cases h
theorem zok : ∀ t i, tiA t = some i → hasA t = true → szOf tb t = i.sz ∧ ∃ j z, Try.prog.info? t = some j ∧ j.zero = some z ∧ z.cells.size = i.sz ∧
    ∀ m (o : Nat) a, ((tb.cod t).enc m (tb.cod t).zero)[o]? = some a → ∃ v, z.cells[o]? = some v ∧ ((a = .v v ∧ oneC v = true) ∨ ∃ q t', a = .sl q t' [] ∧ v = .slice none 0 0) := by
  intro t i h hh
  unfold tiA at h
  split at h
  · cases h
    refine ⟨rfl, _, _, info2, rfl, rfl, fun m o a h => ?_⟩
    have hl : o < 1 := get_lt h
    match o, hl with
    | 0, _ => cases h; exact ⟨_, rfl, by first | exact .inl ⟨rfl, rfl⟩ | exact .inr ⟨_, _, rfl, rfl⟩⟩
  · cases h
    refine ⟨rfl, _, _, info3, rfl, rfl, fun m o a h => ?_⟩
    have hl : o < 1 := get_lt h
    match o, hl with
    | 0, _ => cases h; exact ⟨_, rfl, by first | exact .inl ⟨rfl, rfl⟩ | exact .inr ⟨_, _, rfl, rfl⟩⟩
  · cases h
    refine ⟨rfl, _, _, info4, rfl, rfl, fun m o a h => ?_⟩
    have hl : o < 1 := get_lt h
    match o, hl with
    | 0, _ => cases h; exact ⟨_, rfl, by first | exact .inl ⟨rfl, rfl⟩ | exact .inr ⟨_, _, rfl, rfl⟩⟩
  · cases h
    refine ⟨rfl, _, _, info5, rfl, rfl, fun m o a h => ?_⟩
    have hl : o < 1 := get_lt h
    match o, hl with
    | 0, _ => cases h; exact ⟨_, rfl, by first | exact .inl ⟨rfl, rfl⟩ | exact .inr ⟨_, _, rfl, rfl⟩⟩
  · cases h
    refine ⟨rfl, _, _, info6, rfl, rfl, fun m o a h => ?_⟩
    have hl : o < 1 := get_lt h
    match o, hl with
    | 0, _ => cases h; exact ⟨_, rfl, by first | exact .inl ⟨rfl, rfl⟩ | exact .inr ⟨_, _, rfl, rfl⟩⟩
  · cases h
    refine ⟨rfl, _, _, info7, rfl, rfl, fun m o a h => ?_⟩
    have hl : o < 4 := get_lt h
    match o, hl with
    | 0, _ => cases h; exact ⟨_, rfl, by first | exact .inl ⟨rfl, rfl⟩ | exact .inr ⟨_, _, rfl, rfl⟩⟩
    | 1, _ => cases h; exact ⟨_, rfl, by first | exact .inl ⟨rfl, rfl⟩ | exact .inr ⟨_, _, rfl, rfl⟩⟩
    | 2, _ => cases h; exact ⟨_, rfl, by first | exact .inl ⟨rfl, rfl⟩ | exact .inr ⟨_, _, rfl, rfl⟩⟩
    | 3, _ => cases h; exact ⟨_, rfl, by first | exact .inl ⟨rfl, rfl⟩ | exact .inr ⟨_, _, rfl, rfl⟩⟩
  · cases h
    refine ⟨rfl, _, _, info8, rfl, rfl, fun m o a h => ?_⟩
    have hl : o < 4 := get_lt h
    match o, hl with
    | 0, _ => cases h; exact ⟨_, rfl, by first | exact .inl ⟨rfl, rfl⟩ | exact .inr ⟨_, _, rfl, rfl⟩⟩
    | 1, _ => cases h; exact ⟨_, rfl, by first | exact .inl ⟨rfl, rfl⟩ | exact .inr ⟨_, _, rfl, rfl⟩⟩
    | 2, _ => cases h; exact ⟨_, rfl, by first | exact .inl ⟨rfl, rfl⟩ | exact .inr ⟨_, _, rfl, rfl⟩⟩
    | 3, _ => cases h; exact ⟨_, rfl, by first | exact .inl ⟨rfl, rfl⟩ | exact .inr ⟨_, _, rfl, rfl⟩⟩
  · cases h
    refine ⟨rfl, _, _, info9, rfl, rfl, fun m o a h => ?_⟩
    have hl : o < 1 := get_lt h
    match o, hl with
    | 0, _ => cases h; exact ⟨_, rfl, by first | exact .inl ⟨rfl, rfl⟩ | exact .inr ⟨_, _, rfl, rfl⟩⟩
  · cases h
    refine ⟨rfl, _, _, info10, rfl, rfl, fun m o a h => ?_⟩
    have hl : o < 1 := get_lt h
    match o, hl with
    | 0, _ => cases h; exact ⟨_, rfl, by first | exact .inl ⟨rfl, rfl⟩ | exact .inr ⟨_, _, rfl, rfl⟩⟩
  · cases h
    refine ⟨rfl, _, _, info11, rfl, rfl, fun m o a h => ?_⟩
    have hl : o < 1 := get_lt h
    match o, hl with
    | 0, _ => cases h; exact ⟨_, rfl, by first | exact .inl ⟨rfl, rfl⟩ | exact .inr ⟨_, _, rfl, rfl⟩⟩
  · cases h
    refine ⟨rfl, _, _, info12, rfl, rfl, fun m o a h => ?_⟩
    have hl : o < 1 := get_lt h
    match o, hl with
    | 0, _ => cases h; exact ⟨_, rfl, by first | exact .inl ⟨rfl, rfl⟩ | exact .inr ⟨_, _, rfl, rfl⟩⟩
  · cases h
    refine ⟨rfl, _, _, info13, rfl, rfl, fun m o a h => ?_⟩
    have hl : o < 2 := get_lt h
    match o, hl with
    | 0, _ => cases h; exact ⟨_, rfl, by first | exact .inl ⟨rfl, rfl⟩ | exact .inr ⟨_, _, rfl, rfl⟩⟩
    | 1, _ => cases h; exact ⟨_, rfl, by first | exact .inl ⟨rfl, rfl⟩ | exact .inr ⟨_, _, rfl, rfl⟩⟩
  · cases h
    refine ⟨rfl, _, _, info14, rfl, rfl, fun m o a h => ?_⟩
    have hl : o < 2 := get_lt h
    match o, hl with
    | 0, _ => cases h; exact ⟨_, rfl, by first | exact .inl ⟨rfl, rfl⟩ | exact .inr ⟨_, _, rfl, rfl⟩⟩
    | 1, _ => cases h; exact ⟨_, rfl, by first | exact .inl ⟨rfl, rfl⟩ | exact .inr ⟨_, _, rfl, rfl⟩⟩
  · cases hh
  · cases hh
  · cases hh
  · cases hh
  · cases hh
  · cases h
    refine ⟨rfl, _, _, info21, rfl, rfl, fun m o a h => ?_⟩
    have hl : o < 1 := get_lt h
    match o, hl with
    | 0, _ => cases h; exact ⟨_, rfl, by first | exact .inl ⟨rfl, rfl⟩ | exact .inr ⟨_, _, rfl, rfl⟩⟩
  · cases h
    refine ⟨rfl, _, _, info22, rfl, rfl, fun m o a h => ?_⟩
    have hl : o < 1 := get_lt h
    match o, hl with
    | 0, _ => cases h; exact ⟨_, rfl, by first | exact .inl ⟨rfl, rfl⟩ | exact .inr ⟨_, _, rfl, rfl⟩⟩
  · cases hh
  · cases hh
  · cases h
    refine ⟨rfl, _, _, info27, rfl, rfl, fun m o a h => ?_⟩
    have hl : o < 1 := get_lt h
    match o, hl with
    | 0, _ => cases h; exact ⟨_, rfl, by first | exact .inl ⟨rfl, rfl⟩ | exact .inr ⟨_, _, rfl, rfl⟩⟩
  · cases h
    refine ⟨rfl, _, _, info28, rfl, rfl, fun m o a h => ?_⟩
    have hl : o < 1 := get_lt h
    match o, hl with
    | 0, _ => cases h; exact ⟨_, rfl, by first | exact .inl ⟨rfl, rfl⟩ | exact .inr ⟨_, _, rfl, rfl⟩⟩
  · cases h
    refine ⟨rfl, _, _, info29, rfl, rfl, fun m o a h => ?_⟩
    have hl : o < 1 := get_lt h
    match o, hl with
    | 0, _ => cases h; exact ⟨_, rfl, by first | exact .inl ⟨rfl, rfl⟩ | exact .inr ⟨_, _, rfl, rfl⟩⟩
  · cases h
    refine ⟨rfl, _, _, info30, rfl, rfl, fun m o a h => ?_⟩
    have hl : o < 1 := get_lt h
    match o, hl with
    | 0, _ => cases h; exact ⟨_, rfl, by first | exact .inl ⟨rfl, rfl⟩ | exact .inr ⟨_, _, rfl, rfl⟩⟩
  · cases h
    refine ⟨rfl, _, _, info31, rfl, rfl, fun m o a h => ?_⟩
    have hl : o < 5 := get_lt h
    match o, hl with
    | 0, _ => cases h; exact ⟨_, rfl, by first | exact .inl ⟨rfl, rfl⟩ | exact .inr ⟨_, _, rfl, rfl⟩⟩
    | 1, _ => cases h; exact ⟨_, rfl, by first | exact .inl ⟨rfl, rfl⟩ | exact .inr ⟨_, _, rfl, rfl⟩⟩
    | 2, _ => cases h; exact ⟨_, rfl, by first | exact .inl ⟨rfl, rfl⟩ | exact .inr ⟨_, _, rfl, rfl⟩⟩
    | 3, _ => cases h; exact ⟨_, rfl, by first | exact .inl ⟨rfl, rfl⟩ | exact .inr ⟨_, _, rfl, rfl⟩⟩
    | 4, _ => cases h; exact ⟨_, rfl, by first | exact .inl ⟨rfl, rfl⟩ | exact .inr ⟨_, _, rfl, rfl⟩⟩
  · cases h
    refine ⟨rfl, _, _, info32, rfl, rfl, fun m o a h => ?_⟩
    have hl : o < 5 := get_lt h
    match o, hl with
    | 0, _ => cases h; exact ⟨_, rfl, by first | exact .inl ⟨rfl, rfl⟩ | exact .inr ⟨_, _, rfl, rfl⟩⟩
    | 1, _ => cases h; exact ⟨_, rfl, by first | exact .inl ⟨rfl, rfl⟩ | exact .inr ⟨_, _, rfl, rfl⟩⟩
    | 2, _ => cases h; exact ⟨_, rfl, by first | exact .inl ⟨rfl, rfl⟩ | exact .inr ⟨_, _, rfl, rfl⟩⟩
    | 3, _ => cases h; exact ⟨_, rfl, by first | exact .inl ⟨rfl, rfl⟩ | exact .inr ⟨_, _, rfl, rfl⟩⟩
    | 4, _ => cases h; exact ⟨_, rfl, by first | exact .inl ⟨rfl, rfl⟩ | exact .inr ⟨_, _, rfl, rfl⟩⟩
  · cases h
    refine ⟨rfl, _, _, info41, rfl, rfl, fun m o a h => ?_⟩
    have hl : o < 1 := get_lt h
    match o, hl with
    | 0, _ => cases h; exact ⟨_, rfl, by first | exact .inl ⟨rfl, rfl⟩ | exact .inr ⟨_, _, rfl, rfl⟩⟩
  · cases h
    refine ⟨rfl, _, _, info43, rfl, rfl, fun m o a h => ?_⟩
    have hl : o < 1 := get_lt h
    match o, hl with
    | 0, _ => cases h; exact ⟨_, rfl, by first | exact .inl ⟨rfl, rfl⟩ | exact .inr ⟨_, _, rfl, rfl⟩⟩
  · cases h
    refine ⟨rfl, _, _, info44, rfl, rfl, fun m o a h => ?_⟩
    have hl : o < 1 := get_lt h
    match o, hl with
    | 0, _ => cases h; exact ⟨_, rfl, by first | exact .inl ⟨rfl, rfl⟩ | exact .inr ⟨_, _, rfl, rfl⟩⟩
  · cases h
    refine ⟨rfl, _, _, info47, rfl, rfl, fun m o a h => ?_⟩
    have hl : o < 1 := get_lt h
    match o, hl with
    | 0, _ => cases h; exact ⟨_, rfl, by first | exact .inl ⟨rfl, rfl⟩ | exact .inr ⟨_, _, rfl, rfl⟩⟩
  · cases h
    refine ⟨rfl, _, _, info48, rfl, rfl, fun m o a h => ?_⟩
    have hl : o < 1 := get_lt h
    match o, hl with
    | 0, _ => cases h; exact ⟨_, rfl, by first | exact .inl ⟨rfl, rfl⟩ | exact .inr ⟨_, _, rfl, rfl⟩⟩
  · cases h
    refine ⟨rfl, _, _, info49, rfl, rfl, fun m o a h => ?_⟩
    have hl : o < 1 := get_lt h
    match o, hl with
    | 0, _ => cases h; exact ⟨_, rfl, by first | exact .inl ⟨rfl, rfl⟩ | exact .inr ⟨_, _, rfl, rfl⟩⟩
  · cases h
    refine ⟨rfl, _, _, info50, rfl, rfl, fun m o a h => ?_⟩
    have hl : o < 2 := get_lt h
    match o, hl with
    | 0, _ => cases h; exact ⟨_, rfl, by first | exact .inl ⟨rfl, rfl⟩ | exact .inr ⟨_, _, rfl, rfl⟩⟩
    | 1, _ => cases h; exact ⟨_, rfl, by first | exact .inl ⟨rfl, rfl⟩ | exact .inr ⟨_, _, rfl, rfl⟩⟩
  · cases h
    refine ⟨rfl, _, _, info51, rfl, rfl, fun m o a h => ?_⟩
    have hl : o < 2 := get_lt h
    match o, hl with
    | 0, _ => cases h; exact ⟨_, rfl, by first | exact .inl ⟨rfl, rfl⟩ | exact .inr ⟨_, _, rfl, rfl⟩⟩
    | 1, _ => cases h; exact ⟨_, rfl, by first | exact .inl ⟨rfl, rfl⟩ | exact .inr ⟨_, _, rfl, rfl⟩⟩
  · cases h
    refine ⟨rfl, _, _, info54, rfl, rfl, fun m o a h => ?_⟩
    have hl : o < 1 := get_lt h
    match o, hl with
    | 0, _ => cases h; exact ⟨_, rfl, by first | exact .inl ⟨rfl, rfl⟩ | exact .inr ⟨_, _, rfl, rfl⟩⟩
  · cases h
    refine ⟨rfl, _, _, info64, rfl, rfl, fun m o a h => ?_⟩
    have hl : o < 1 := get_lt h
    match o, hl with
    | 0, _ => cases h; exact ⟨_, rfl, by first | exact .inl ⟨rfl, rfl⟩ | exact .inr ⟨_, _, rfl, rfl⟩⟩
  · cases h
    refine ⟨rfl, _, _, info72, rfl, rfl, fun m o a h => ?_⟩
    have hl : o < 1 := get_lt h
    match o, hl with
    | 0, _ => cases h; exact ⟨_, rfl, by first | exact .inl ⟨rfl, rfl⟩ | exact .inr ⟨_, _, rfl, rfl⟩⟩
  · cases h
    refine ⟨rfl, _, _, info73, rfl, rfl, fun m o a h => ?_⟩
    have hl : o < 1 := get_lt h
    match o, hl with
    | 0, _ => cases h; exact ⟨_, rfl, by first | exact .inl ⟨rfl, rfl⟩ | exact .inr ⟨_, _, rfl, rfl⟩⟩
  · cases hh
  · cases hh
  · cases hh
  · cases h
    refine ⟨rfl, _, _, info83, rfl, rfl, fun m o a h => ?_⟩
    have hl : o < 1 := get_lt h
    match o, hl with
    | 0, _ => cases h; exact ⟨_, rfl, by first | exact .inl ⟨rfl, rfl⟩ | exact .inr ⟨_, _, rfl, rfl⟩⟩
  · cases h
    refine ⟨rfl, _, _, info84, rfl, rfl, fun m o a h => ?_⟩
    have hl : o < 1 := get_lt h
    match o, hl with
    | 0, _ => cases h; exact ⟨_, rfl, by first | exact .inl ⟨rfl, rfl⟩ | exact .inr ⟨_, _, rfl, rfl⟩⟩
  · cases h
    refine ⟨rfl, _, _, info85, rfl, rfl, fun m o a h => ?_⟩
    have hl : o < 1 := get_lt h
    match o, hl with
    | 0, _ => cases h; exact ⟨_, rfl, by first | exact .inl ⟨rfl, rfl⟩ | exact .inr ⟨_, _, rfl, rfl⟩⟩
  · cases hh
  · cases h
    refine ⟨rfl, _, _, info88, rfl, rfl, fun m o a h => ?_⟩
    have hl : o < 1 := get_lt h
    match o, hl with
    | 0, _ => cases h; exact ⟨_, rfl, by first | exact .inl ⟨rfl, rfl⟩ | exact .inr ⟨_, _, rfl, rfl⟩⟩
  · cases h
    refine ⟨rfl, _, _, info89, rfl, rfl, fun m o a h => ?_⟩
    have hl : o < 1 := get_lt h
    match o, hl with
    | 0, _ => cases h; exact ⟨_, rfl, by first | exact .inl ⟨rfl, rfl⟩ | exact .inr ⟨_, _, rfl, rfl⟩⟩
  · cases hh
  · cases hh
  · cases h
theorem tbOk : TbOk tb Try.prog := ⟨dok, iok, zok⟩
theorem mixed : Try.prog.follows .mixedOrders = true := by kernel_rfl
end Go.Proofs.Ytnibdgjlbhdmfaa.Ev
