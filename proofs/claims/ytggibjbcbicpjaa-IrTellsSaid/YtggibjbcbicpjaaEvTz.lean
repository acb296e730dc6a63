/- The table of types is the program's. -/
import Derived.Test.YtggibjbcbicpjaaEvTy
namespace Go.Proofs.Ytggibjbcbicpjaa.Ev
open Go
set_option linter.unusedVariables false
set_option linter.unusedSimpArgs false
theorem case5 {α : Type} {p : Nat → α → Prop} : ∀ (l : List α) (k : Nat), (∀ x, x ∈ l.zipIdx k → p x.2 x.1) → ∀ (i : Nat) a, l[i]? = some a → p (k + i) a
  | [], k, h, i, a, e => by simp at e
  | x :: l, k, h, 0, a, e => by cases e; exact h (x, k) (by simp [List.zipIdx])
  | x :: l, k, h, i + 1, a, e => by
    have := case5 l (k + 1) (fun y hy => h y (by simp only [List.zipIdx]; exact List.mem_cons_of_mem _ hy)) i a (by simpa using e)
    rwa [show k + (i + 1) = k + 1 + i by omega]
theorem info2 : Try.prog.info? 2 = some Try.t2 := by kernel_rfl
theorem info3 : Try.prog.info? 3 = some Try.t3 := by kernel_rfl
theorem info4 : Try.prog.info? 4 = some Try.t4 := by kernel_rfl
theorem info5 : Try.prog.info? 5 = some Try.t5 := by kernel_rfl
theorem info6 : Try.prog.info? 6 = some Try.t6 := by kernel_rfl
theorem info7 : Try.prog.info? 7 = some Try.t7 := by kernel_rfl
theorem info8 : Try.prog.info? 8 = some Try.t8 := by kernel_rfl
theorem info9 : Try.prog.info? 9 = some Try.t9 := by kernel_rfl
theorem info10 : Try.prog.info? 10 = some Try.t10 := by kernel_rfl
theorem info11 : Try.prog.info? 11 = some Try.t11 := by kernel_rfl
theorem info12 : Try.prog.info? 12 = some Try.t12 := by kernel_rfl
theorem info13 : Try.prog.info? 13 = some Try.t13 := by kernel_rfl
theorem info14 : Try.prog.info? 14 = some Try.t14 := by kernel_rfl
theorem info15 : Try.prog.info? 15 = some Try.t15 := by kernel_rfl
theorem info16 : Try.prog.info? 16 = some Try.t16 := by kernel_rfl
theorem info17 : Try.prog.info? 17 = some Try.t17 := by kernel_rfl
theorem info18 : Try.prog.info? 18 = some Try.t18 := by kernel_rfl
theorem info19 : Try.prog.info? 19 = some Try.t19 := by kernel_rfl
theorem info21 : Try.prog.info? 21 = some Try.t21 := by kernel_rfl
theorem info22 : Try.prog.info? 22 = some Try.t22 := by kernel_rfl
theorem info23 : Try.prog.info? 23 = some Try.t23 := by kernel_rfl
theorem info24 : Try.prog.info? 24 = some Try.t24 := by kernel_rfl
theorem info25 : Try.prog.info? 25 = some Try.t25 := by kernel_rfl
theorem info26 : Try.prog.info? 26 = some Try.t26 := by kernel_rfl
theorem info27 : Try.prog.info? 27 = some Try.t27 := by kernel_rfl
theorem info30 : Try.prog.info? 30 = some Try.t30 := by kernel_rfl
theorem info31 : Try.prog.info? 31 = some Try.t31 := by kernel_rfl
theorem info32 : Try.prog.info? 32 = some Try.t32 := by kernel_rfl
theorem info33 : Try.prog.info? 33 = some Try.t33 := by kernel_rfl
theorem info42 : Try.prog.info? 42 = some Try.t42 := by kernel_rfl
theorem info43 : Try.prog.info? 43 = some Try.t43 := by kernel_rfl
theorem info44 : Try.prog.info? 44 = some Try.t44 := by kernel_rfl
theorem info45 : Try.prog.info? 45 = some Try.t45 := by kernel_rfl
theorem info46 : Try.prog.info? 46 = some Try.t46 := by kernel_rfl
theorem info47 : Try.prog.info? 47 = some Try.t47 := by kernel_rfl
theorem info52 : Try.prog.info? 52 = some Try.t52 := by kernel_rfl
theorem info60 : Try.prog.info? 60 = some Try.t60 := by kernel_rfl
theorem info61 : Try.prog.info? 61 = some Try.t61 := by kernel_rfl
theorem info71 : Try.prog.info? 71 = some Try.t71 := by kernel_rfl
theorem info74 : Try.prog.info? 74 = some Try.t74 := by kernel_rfl
theorem info75 : Try.prog.info? 75 = some Try.t75 := by kernel_rfl
theorem info90 : Try.prog.info? 90 = some Try.t90 := by kernel_rfl
theorem info91 : Try.prog.info? 91 = some Try.t91 := by kernel_rfl
theorem info92 : Try.prog.info? 92 = some Try.t92 := by kernel_rfl
theorem info93 : Try.prog.info? 93 = some Try.t93 := by kernel_rfl
theorem info94 : Try.prog.info? 94 = some Try.t94 := by kernel_rfl
theorem info95 : Try.prog.info? 95 = some Try.t95 := by kernel_rfl
theorem info96 : Try.prog.info? 96 = some Try.t96 := by kernel_rfl
theorem info101 : Try.prog.info? 101 = some Try.t101 := by kernel_rfl
theorem info102 : Try.prog.info? 102 = some Try.t102 := by kernel_rfl
theorem info103 : Try.prog.info? 103 = some Try.t103 := by kernel_rfl
theorem info104 : Try.prog.info? 104 = some Try.t104 := by kernel_rfl
theorem info118 : Try.prog.info? 118 = some Try.t118 := by kernel_rfl
theorem info119 : Try.prog.info? 119 = some Try.t119 := by kernel_rfl
theorem info120 : Try.prog.info? 120 = some Try.t120 := by kernel_rfl
theorem info129 : Try.prog.info? 129 = some Try.t129 := by kernel_rfl
theorem info130 : Try.prog.info? 130 = some Try.t130 := by kernel_rfl
theorem info131 : Try.prog.info? 131 = some Try.t131 := by kernel_rfl
theorem info137 : Try.prog.info? 137 = some Try.t137 := by kernel_rfl
theorem info138 : Try.prog.info? 138 = some Try.t138 := by kernel_rfl
theorem info139 : Try.prog.info? 139 = some Try.t139 := by kernel_rfl
theorem info141 : Try.prog.info? 141 = some Try.t141 := by kernel_rfl
theorem info142 : Try.prog.info? 142 = some Try.t142 := by kernel_rfl
theorem info143 : Try.prog.info? 143 = some Try.t143 := by kernel_rfl
theorem info144 : Try.prog.info? 144 = some Try.t144 := by kernel_rfl
theorem info147 : Try.prog.info? 147 = some Try.t147 := by kernel_rfl
theorem info148 : Try.prog.info? 148 = some Try.t148 := by kernel_rfl
theorem info159 : Try.prog.info? 159 = some Try.t159 := by kernel_rfl
theorem info162 : Try.prog.info? 162 = some Try.t162 := by kernel_rfl
theorem info164 : Try.prog.info? 164 = some Try.t164 := by kernel_rfl
theorem info175 : Try.prog.info? 175 = some Try.t175 := by kernel_rfl
theorem info177 : Try.prog.info? 177 = some Try.t177 := by kernel_rfl
theorem info178 : Try.prog.info? 178 = some Try.t178 := by kernel_rfl
theorem und2 : Try.prog.underlying 2 = some Try.t2.desc := by kernel_rfl
theorem und3 : Try.prog.underlying 3 = some Try.t3.desc := by kernel_rfl
theorem und4 : Try.prog.underlying 4 = some Try.t4.desc := by kernel_rfl
theorem und5 : Try.prog.underlying 5 = some Try.t5.desc := by kernel_rfl
theorem und6 : Try.prog.underlying 6 = some Try.t5.desc := by kernel_rfl
theorem und7 : Try.prog.underlying 7 = some Try.t7.desc := by kernel_rfl
theorem und8 : Try.prog.underlying 8 = some Try.t7.desc := by kernel_rfl
theorem und9 : Try.prog.underlying 9 = some Try.t9.desc := by kernel_rfl
theorem und10 : Try.prog.underlying 10 = some Try.t9.desc := by kernel_rfl
theorem und11 : Try.prog.underlying 11 = some Try.t9.desc := by kernel_rfl
theorem und12 : Try.prog.underlying 12 = some Try.t12.desc := by kernel_rfl
theorem und13 : Try.prog.underlying 13 = some Try.t13.desc := by kernel_rfl
theorem und14 : Try.prog.underlying 14 = some Try.t13.desc := by kernel_rfl
theorem und15 : Try.prog.underlying 15 = some Try.t15.desc := by kernel_rfl
theorem und16 : Try.prog.underlying 16 = some Try.t16.desc := by kernel_rfl
theorem und17 : Try.prog.underlying 17 = some Try.t17.desc := by kernel_rfl
theorem und18 : Try.prog.underlying 18 = some Try.t18.desc := by kernel_rfl
theorem und19 : Try.prog.underlying 19 = some Try.t18.desc := by kernel_rfl
theorem und21 : Try.prog.underlying 21 = some Try.t21.desc := by kernel_rfl
theorem und22 : Try.prog.underlying 22 = some Try.t22.desc := by kernel_rfl
theorem und23 : Try.prog.underlying 23 = some Try.t23.desc := by kernel_rfl
theorem und24 : Try.prog.underlying 24 = some Try.t24.desc := by kernel_rfl
theorem und25 : Try.prog.underlying 25 = some Try.t25.desc := by kernel_rfl
theorem und26 : Try.prog.underlying 26 = some Try.t26.desc := by kernel_rfl
theorem und27 : Try.prog.underlying 27 = some Try.t26.desc := by kernel_rfl
theorem und30 : Try.prog.underlying 30 = some Try.t30.desc := by kernel_rfl
theorem und31 : Try.prog.underlying 31 = some Try.t31.desc := by kernel_rfl
theorem und32 : Try.prog.underlying 32 = some Try.t32.desc := by kernel_rfl
theorem und33 : Try.prog.underlying 33 = some Try.t32.desc := by kernel_rfl
theorem und42 : Try.prog.underlying 42 = some Try.t42.desc := by kernel_rfl
theorem und43 : Try.prog.underlying 43 = some Try.t43.desc := by kernel_rfl
theorem und44 : Try.prog.underlying 44 = some Try.t43.desc := by kernel_rfl
theorem und45 : Try.prog.underlying 45 = some Try.t45.desc := by kernel_rfl
theorem und46 : Try.prog.underlying 46 = some Try.t45.desc := by kernel_rfl
theorem und47 : Try.prog.underlying 47 = some Try.t47.desc := by kernel_rfl
theorem und52 : Try.prog.underlying 52 = some Try.t52.desc := by kernel_rfl
theorem und60 : Try.prog.underlying 60 = some Try.t60.desc := by kernel_rfl
theorem und61 : Try.prog.underlying 61 = some Try.t61.desc := by kernel_rfl
theorem und71 : Try.prog.underlying 71 = some Try.t71.desc := by kernel_rfl
theorem und74 : Try.prog.underlying 74 = some Try.t74.desc := by kernel_rfl
theorem und75 : Try.prog.underlying 75 = some Try.t3.desc := by kernel_rfl
theorem und90 : Try.prog.underlying 90 = some Try.t90.desc := by kernel_rfl
theorem und91 : Try.prog.underlying 91 = some Try.t90.desc := by kernel_rfl
theorem und92 : Try.prog.underlying 92 = some Try.t92.desc := by kernel_rfl
theorem und93 : Try.prog.underlying 93 = some Try.t93.desc := by kernel_rfl
theorem und94 : Try.prog.underlying 94 = some Try.t93.desc := by kernel_rfl
theorem und95 : Try.prog.underlying 95 = some Try.t95.desc := by kernel_rfl
theorem und96 : Try.prog.underlying 96 = some Try.t95.desc := by kernel_rfl
theorem und101 : Try.prog.underlying 101 = some Try.t101.desc := by kernel_rfl
theorem und102 : Try.prog.underlying 102 = some Try.t102.desc := by kernel_rfl
theorem und103 : Try.prog.underlying 103 = some Try.t103.desc := by kernel_rfl
theorem und104 : Try.prog.underlying 104 = some Try.t103.desc := by kernel_rfl
theorem und118 : Try.prog.underlying 118 = some Try.t118.desc := by kernel_rfl
theorem und119 : Try.prog.underlying 119 = some Try.t119.desc := by kernel_rfl
theorem und120 : Try.prog.underlying 120 = some Try.t119.desc := by kernel_rfl
theorem und129 : Try.prog.underlying 129 = some Try.t129.desc := by kernel_rfl
theorem und130 : Try.prog.underlying 130 = some Try.t130.desc := by kernel_rfl
theorem und131 : Try.prog.underlying 131 = some Try.t130.desc := by kernel_rfl
theorem und137 : Try.prog.underlying 137 = some Try.t137.desc := by kernel_rfl
theorem und138 : Try.prog.underlying 138 = some Try.t138.desc := by kernel_rfl
theorem und139 : Try.prog.underlying 139 = some Try.t138.desc := by kernel_rfl
theorem und141 : Try.prog.underlying 141 = some Try.t141.desc := by kernel_rfl
theorem und142 : Try.prog.underlying 142 = some Try.t141.desc := by kernel_rfl
theorem und143 : Try.prog.underlying 143 = some Try.t143.desc := by kernel_rfl
theorem und144 : Try.prog.underlying 144 = some Try.t144.desc := by kernel_rfl
theorem und147 : Try.prog.underlying 147 = some Try.t147.desc := by kernel_rfl
theorem und148 : Try.prog.underlying 148 = some Try.t148.desc := by kernel_rfl
theorem und159 : Try.prog.underlying 159 = some Try.t159.desc := by kernel_rfl
theorem und162 : Try.prog.underlying 162 = some Try.t162.desc := by kernel_rfl
theorem und164 : Try.prog.underlying 164 = some Try.t164.desc := by kernel_rfl
theorem und175 : Try.prog.underlying 175 = some Try.t175.desc := by kernel_rfl
theorem und177 : Try.prog.underlying 177 = some Try.t177.desc := by kernel_rfl
theorem und178 : Try.prog.underlying 178 = some Try.t177.desc := by kernel_rfl
theorem dok : ∀ t i, tiA t = some i → ∃ d, Try.prog.underlying t = some d ∧ DOk (fun t z => ∃ j, Try.prog.info? t = some j ∧ j.size = z) i.d d := by
  intro t i h
  unfold tiA at h
  split at h
  · cases h
    exact ⟨_, und2, rfl⟩
  · cases h
    exact ⟨_, und3, rfl⟩
  · cases h
    exact ⟨_, und4, trivial⟩
  · cases h
    exact ⟨_, und5, rfl⟩
  · cases h
    exact ⟨_, und6, rfl⟩
  · cases h
    refine ⟨_, und7, rfl, fun i p h => ?_⟩
    have hl : i < 4 := get_lt h
    match i, hl with
    | 0, _ => cases h; exact ⟨_, rfl, rfl, rfl, _, ⟨_, info2, rfl⟩, by decide⟩
    | 1, _ => cases h; exact ⟨_, rfl, rfl, rfl, _, ⟨_, info3, rfl⟩, by decide⟩
    | 2, _ => cases h; exact ⟨_, rfl, rfl, rfl, _, ⟨_, info4, rfl⟩, by decide⟩
    | 3, _ => cases h; exact ⟨_, rfl, rfl, rfl, _, ⟨_, info6, rfl⟩, by decide⟩
  · cases h
    refine ⟨_, und8, rfl, fun i p h => ?_⟩
    have hl : i < 4 := get_lt h
    match i, hl with
    | 0, _ => cases h; exact ⟨_, rfl, rfl, rfl, _, ⟨_, info2, rfl⟩, by decide⟩
    | 1, _ => cases h; exact ⟨_, rfl, rfl, rfl, _, ⟨_, info3, rfl⟩, by decide⟩
    | 2, _ => cases h; exact ⟨_, rfl, rfl, rfl, _, ⟨_, info4, rfl⟩, by decide⟩
    | 3, _ => cases h; exact ⟨_, rfl, rfl, rfl, _, ⟨_, info6, rfl⟩, by decide⟩
  · cases h
    exact ⟨_, und9, trivial⟩
  · cases h
    exact ⟨_, und10, trivial⟩
  · cases h
    exact ⟨_, und11, trivial⟩
  · cases h
    exact ⟨_, und12, rfl⟩
  · cases h
    refine ⟨_, und13, rfl, fun i p h => ?_⟩
    have hl : i < 2 := get_lt h
    match i, hl with
    | 0, _ => cases h; exact ⟨_, rfl, rfl, rfl, _, ⟨_, info9, rfl⟩, by decide⟩
    | 1, _ => cases h; exact ⟨_, rfl, rfl, rfl, _, ⟨_, info12, rfl⟩, by decide⟩
  · cases h
    refine ⟨_, und14, rfl, fun i p h => ?_⟩
    have hl : i < 2 := get_lt h
    match i, hl with
    | 0, _ => cases h; exact ⟨_, rfl, rfl, rfl, _, ⟨_, info9, rfl⟩, by decide⟩
    | 1, _ => cases h; exact ⟨_, rfl, rfl, rfl, _, ⟨_, info12, rfl⟩, by decide⟩
  · cases h
    exact ⟨_, und15, rfl⟩
  · cases h
    exact ⟨_, und16, rfl⟩
  · cases h
    exact ⟨_, und17, rfl⟩
  · cases h
    refine ⟨_, und18, rfl, fun i p h => ?_⟩
    have hl : i < 1 := get_lt h
    match i, hl with
    | 0, _ => cases h; exact ⟨_, rfl, rfl, rfl, _, ⟨_, info17, rfl⟩, by decide⟩
  · cases h
    refine ⟨_, und19, rfl, fun i p h => ?_⟩
    have hl : i < 1 := get_lt h
    match i, hl with
    | 0, _ => cases h; exact ⟨_, rfl, rfl, rfl, _, ⟨_, info17, rfl⟩, by decide⟩
  · cases h
    exact ⟨_, und21, rfl⟩
  · cases h
    exact ⟨_, und22, rfl⟩
  · cases h
    exact ⟨_, und23, rfl⟩
  · cases h
    exact ⟨_, und24, rfl⟩
  · cases h
    exact ⟨_, und25, rfl⟩
  · cases h
    refine ⟨_, und26, rfl, fun i p h => ?_⟩
    have hl : i < 4 := get_lt h
    match i, hl with
    | 0, _ => cases h; exact ⟨_, rfl, rfl, rfl, _, ⟨_, info22, rfl⟩, by decide⟩
    | 1, _ => cases h; exact ⟨_, rfl, rfl, rfl, _, ⟨_, info23, rfl⟩, by decide⟩
    | 2, _ => cases h; exact ⟨_, rfl, rfl, rfl, _, ⟨_, info24, rfl⟩, by decide⟩
    | 3, _ => cases h; exact ⟨_, rfl, rfl, rfl, _, ⟨_, info25, rfl⟩, by decide⟩
  · cases h
    refine ⟨_, und27, rfl, fun i p h => ?_⟩
    have hl : i < 4 := get_lt h
    match i, hl with
    | 0, _ => cases h; exact ⟨_, rfl, rfl, rfl, _, ⟨_, info22, rfl⟩, by decide⟩
    | 1, _ => cases h; exact ⟨_, rfl, rfl, rfl, _, ⟨_, info23, rfl⟩, by decide⟩
    | 2, _ => cases h; exact ⟨_, rfl, rfl, rfl, _, ⟨_, info24, rfl⟩, by decide⟩
    | 3, _ => cases h; exact ⟨_, rfl, rfl, rfl, _, ⟨_, info25, rfl⟩, by decide⟩
  · cases h
    exact ⟨_, und30, rfl⟩
  · cases h
    exact ⟨_, und31, rfl⟩
  · cases h
    refine ⟨_, und32, rfl, fun i p h => ?_⟩
    have hl : i < 5 := get_lt h
    match i, hl with
    | 0, _ => cases h; exact ⟨_, rfl, rfl, rfl, _, ⟨_, info9, rfl⟩, by decide⟩
    | 1, _ => cases h; exact ⟨_, rfl, rfl, rfl, _, ⟨_, info4, rfl⟩, by decide⟩
    | 2, _ => cases h; exact ⟨_, rfl, rfl, rfl, _, ⟨_, info30, rfl⟩, by decide⟩
    | 3, _ => cases h; exact ⟨_, rfl, rfl, rfl, _, ⟨_, info3, rfl⟩, by decide⟩
    | 4, _ => cases h; exact ⟨_, rfl, rfl, rfl, _, ⟨_, info31, rfl⟩, by decide⟩
  · cases h
    refine ⟨_, und33, rfl, fun i p h => ?_⟩
    have hl : i < 5 := get_lt h
    match i, hl with
    | 0, _ => cases h; exact ⟨_, rfl, rfl, rfl, _, ⟨_, info9, rfl⟩, by decide⟩
    | 1, _ => cases h; exact ⟨_, rfl, rfl, rfl, _, ⟨_, info4, rfl⟩, by decide⟩
    | 2, _ => cases h; exact ⟨_, rfl, rfl, rfl, _, ⟨_, info30, rfl⟩, by decide⟩
    | 3, _ => cases h; exact ⟨_, rfl, rfl, rfl, _, ⟨_, info3, rfl⟩, by decide⟩
    | 4, _ => cases h; exact ⟨_, rfl, rfl, rfl, _, ⟨_, info31, rfl⟩, by decide⟩
  · cases h
    exact ⟨_, und42, rfl⟩
  · cases h
    refine ⟨_, und43, rfl, fun i p h => ?_⟩
    have hl : i < 1 := get_lt h
    match i, hl with
    | 0, _ => cases h; exact ⟨_, rfl, rfl, rfl, _, ⟨_, info42, rfl⟩, by decide⟩
  · cases h
    refine ⟨_, und44, rfl, fun i p h => ?_⟩
    have hl : i < 1 := get_lt h
    match i, hl with
    | 0, _ => cases h; exact ⟨_, rfl, rfl, rfl, _, ⟨_, info42, rfl⟩, by decide⟩
  · cases h
    refine ⟨_, und45, rfl, fun i p h => ?_⟩
    have hl : i < 7 := get_lt h
    match i, hl with
    | 0, _ => cases h; exact ⟨_, rfl, rfl, rfl, _, ⟨_, info3, rfl⟩, by decide⟩
    | 1, _ => cases h; exact ⟨_, rfl, rfl, rfl, _, ⟨_, info3, rfl⟩, by decide⟩
    | 2, _ => cases h; exact ⟨_, rfl, rfl, rfl, _, ⟨_, info3, rfl⟩, by decide⟩
    | 3, _ => cases h; exact ⟨_, rfl, rfl, rfl, _, ⟨_, info3, rfl⟩, by decide⟩
    | 4, _ => cases h; exact ⟨_, rfl, rfl, rfl, _, ⟨_, info2, rfl⟩, by decide⟩
    | 5, _ => cases h; exact ⟨_, rfl, rfl, rfl, _, ⟨_, info30, rfl⟩, by decide⟩
    | 6, _ => cases h; exact ⟨_, rfl, rfl, rfl, _, ⟨_, info30, rfl⟩, by decide⟩
  · cases h
    refine ⟨_, und46, rfl, fun i p h => ?_⟩
    have hl : i < 7 := get_lt h
    match i, hl with
    | 0, _ => cases h; exact ⟨_, rfl, rfl, rfl, _, ⟨_, info3, rfl⟩, by decide⟩
    | 1, _ => cases h; exact ⟨_, rfl, rfl, rfl, _, ⟨_, info3, rfl⟩, by decide⟩
    | 2, _ => cases h; exact ⟨_, rfl, rfl, rfl, _, ⟨_, info3, rfl⟩, by decide⟩
    | 3, _ => cases h; exact ⟨_, rfl, rfl, rfl, _, ⟨_, info3, rfl⟩, by decide⟩
    | 4, _ => cases h; exact ⟨_, rfl, rfl, rfl, _, ⟨_, info2, rfl⟩, by decide⟩
    | 5, _ => cases h; exact ⟨_, rfl, rfl, rfl, _, ⟨_, info30, rfl⟩, by decide⟩
    | 6, _ => cases h; exact ⟨_, rfl, rfl, rfl, _, ⟨_, info30, rfl⟩, by decide⟩
  · cases h
    exact ⟨_, und47, rfl⟩
  · cases h
    exact ⟨_, und52, rfl⟩
  · cases h
    exact ⟨_, und60, rfl⟩
  · cases h
    exact ⟨_, und61, rfl⟩
  · cases h
    exact ⟨_, und71, rfl⟩
  · cases h
    exact ⟨_, und74, rfl⟩
  · cases h
    exact ⟨_, und75, rfl⟩
  · cases h
    refine ⟨_, und90, rfl, fun i p h => ?_⟩
    have hl : i < 3 := get_lt h
    match i, hl with
    | 0, _ => cases h; exact ⟨_, rfl, rfl, rfl, _, ⟨_, info9, rfl⟩, by decide⟩
    | 1, _ => cases h; exact ⟨_, rfl, rfl, rfl, _, ⟨_, info30, rfl⟩, by decide⟩
    | 2, _ => cases h; exact ⟨_, rfl, rfl, rfl, _, ⟨_, info3, rfl⟩, by decide⟩
  · cases h
    refine ⟨_, und91, rfl, fun i p h => ?_⟩
    have hl : i < 3 := get_lt h
    match i, hl with
    | 0, _ => cases h; exact ⟨_, rfl, rfl, rfl, _, ⟨_, info9, rfl⟩, by decide⟩
    | 1, _ => cases h; exact ⟨_, rfl, rfl, rfl, _, ⟨_, info30, rfl⟩, by decide⟩
    | 2, _ => cases h; exact ⟨_, rfl, rfl, rfl, _, ⟨_, info3, rfl⟩, by decide⟩
  · cases h
    exact ⟨_, und92, rfl⟩
  · cases h
    refine ⟨_, und93, rfl, fun i p h => ?_⟩
    have hl : i < 2 := get_lt h
    match i, hl with
    | 0, _ => cases h; exact ⟨_, rfl, rfl, rfl, _, ⟨_, info9, rfl⟩, by decide⟩
    | 1, _ => cases h; exact ⟨_, rfl, rfl, rfl, _, ⟨_, info92, rfl⟩, by decide⟩
  · cases h
    refine ⟨_, und94, rfl, fun i p h => ?_⟩
    have hl : i < 2 := get_lt h
    match i, hl with
    | 0, _ => cases h; exact ⟨_, rfl, rfl, rfl, _, ⟨_, info9, rfl⟩, by decide⟩
    | 1, _ => cases h; exact ⟨_, rfl, rfl, rfl, _, ⟨_, info92, rfl⟩, by decide⟩
  · cases h
    refine ⟨_, und95, rfl, fun i p h => ?_⟩
    have hl : i < 2 := get_lt h
    match i, hl with
    | 0, _ => cases h; exact ⟨_, rfl, rfl, rfl, _, ⟨_, info9, rfl⟩, by decide⟩
    | 1, _ => cases h; exact ⟨_, rfl, rfl, rfl, _, ⟨_, info30, rfl⟩, by decide⟩
  · cases h
    refine ⟨_, und96, rfl, fun i p h => ?_⟩
    have hl : i < 2 := get_lt h
    match i, hl with
    | 0, _ => cases h; exact ⟨_, rfl, rfl, rfl, _, ⟨_, info9, rfl⟩, by decide⟩
    | 1, _ => cases h; exact ⟨_, rfl, rfl, rfl, _, ⟨_, info30, rfl⟩, by decide⟩
  · cases h
    exact ⟨_, und101, rfl⟩
  · cases h
    exact ⟨_, und102, rfl⟩
  · cases h
    refine ⟨_, und103, rfl, fun i p h => ?_⟩
    have hl : i < 8 := get_lt h
    match i, hl with
    | 0, _ => cases h; exact ⟨_, rfl, rfl, rfl, _, ⟨_, info52, rfl⟩, by decide⟩
    | 1, _ => cases h; exact ⟨_, rfl, rfl, rfl, _, ⟨_, info30, rfl⟩, by decide⟩
    | 2, _ => cases h; exact ⟨_, rfl, rfl, rfl, _, ⟨_, info30, rfl⟩, by decide⟩
    | 3, _ => cases h; exact ⟨_, rfl, rfl, rfl, _, ⟨_, info71, rfl⟩, by decide⟩
    | 4, _ => cases h; exact ⟨_, rfl, rfl, rfl, _, ⟨_, info30, rfl⟩, by decide⟩
    | 5, _ => cases h; exact ⟨_, rfl, rfl, rfl, _, ⟨_, info3, rfl⟩, by decide⟩
    | 6, _ => cases h; exact ⟨_, rfl, rfl, rfl, _, ⟨_, info30, rfl⟩, by decide⟩
    | 7, _ => cases h; exact ⟨_, rfl, rfl, rfl, _, ⟨_, info3, rfl⟩, by decide⟩
  · cases h
    refine ⟨_, und104, rfl, fun i p h => ?_⟩
    have hl : i < 8 := get_lt h
    match i, hl with
    | 0, _ => cases h; exact ⟨_, rfl, rfl, rfl, _, ⟨_, info52, rfl⟩, by decide⟩
    | 1, _ => cases h; exact ⟨_, rfl, rfl, rfl, _, ⟨_, info30, rfl⟩, by decide⟩
    | 2, _ => cases h; exact ⟨_, rfl, rfl, rfl, _, ⟨_, info30, rfl⟩, by decide⟩
    | 3, _ => cases h; exact ⟨_, rfl, rfl, rfl, _, ⟨_, info71, rfl⟩, by decide⟩
    | 4, _ => cases h; exact ⟨_, rfl, rfl, rfl, _, ⟨_, info30, rfl⟩, by decide⟩
    | 5, _ => cases h; exact ⟨_, rfl, rfl, rfl, _, ⟨_, info3, rfl⟩, by decide⟩
    | 6, _ => cases h; exact ⟨_, rfl, rfl, rfl, _, ⟨_, info30, rfl⟩, by decide⟩
    | 7, _ => cases h; exact ⟨_, rfl, rfl, rfl, _, ⟨_, info3, rfl⟩, by decide⟩
  · cases h
    exact ⟨_, und118, rfl⟩
  · cases h
    refine ⟨_, und119, rfl, fun i p h => ?_⟩
    have hl : i < 1 := get_lt h
    match i, hl with
    | 0, _ => cases h; exact ⟨_, rfl, rfl, rfl, _, ⟨_, info74, rfl⟩, by decide⟩
  · cases h
    refine ⟨_, und120, rfl, fun i p h => ?_⟩
    have hl : i < 1 := get_lt h
    match i, hl with
    | 0, _ => cases h; exact ⟨_, rfl, rfl, rfl, _, ⟨_, info74, rfl⟩, by decide⟩
  · cases h
    exact ⟨_, und129, rfl⟩
  · cases h
    refine ⟨_, und130, rfl, fun i p h => ?_⟩
    have hl : i < 3 := get_lt h
    match i, hl with
    | 0, _ => cases h; exact ⟨_, rfl, rfl, rfl, _, ⟨_, info74, rfl⟩, by decide⟩
    | 1, _ => cases h; exact ⟨_, rfl, rfl, rfl, _, ⟨_, info3, rfl⟩, by decide⟩
    | 2, _ => cases h; exact ⟨_, rfl, rfl, rfl, _, ⟨_, info4, rfl⟩, by decide⟩
  · cases h
    refine ⟨_, und131, rfl, fun i p h => ?_⟩
    have hl : i < 3 := get_lt h
    match i, hl with
    | 0, _ => cases h; exact ⟨_, rfl, rfl, rfl, _, ⟨_, info74, rfl⟩, by decide⟩
    | 1, _ => cases h; exact ⟨_, rfl, rfl, rfl, _, ⟨_, info3, rfl⟩, by decide⟩
    | 2, _ => cases h; exact ⟨_, rfl, rfl, rfl, _, ⟨_, info4, rfl⟩, by decide⟩
  · cases h
    exact ⟨_, und137, rfl⟩
  · cases h
    refine ⟨_, und138, rfl, fun i p h => ?_⟩
    have hl : i < 3 := get_lt h
    match i, hl with
    | 0, _ => cases h; exact ⟨_, rfl, rfl, rfl, _, ⟨_, info74, rfl⟩, by decide⟩
    | 1, _ => cases h; exact ⟨_, rfl, rfl, rfl, _, ⟨_, info3, rfl⟩, by decide⟩
    | 2, _ => cases h; exact ⟨_, rfl, rfl, rfl, _, ⟨_, info4, rfl⟩, by decide⟩
  · cases h
    refine ⟨_, und139, rfl, fun i p h => ?_⟩
    have hl : i < 3 := get_lt h
    match i, hl with
    | 0, _ => cases h; exact ⟨_, rfl, rfl, rfl, _, ⟨_, info74, rfl⟩, by decide⟩
    | 1, _ => cases h; exact ⟨_, rfl, rfl, rfl, _, ⟨_, info3, rfl⟩, by decide⟩
    | 2, _ => cases h; exact ⟨_, rfl, rfl, rfl, _, ⟨_, info4, rfl⟩, by decide⟩
  · cases h
    refine ⟨_, und141, rfl, fun i p h => ?_⟩
    have hl : i < 2 := get_lt h
    match i, hl with
    | 0, _ => cases h; exact ⟨_, rfl, rfl, rfl, _, ⟨_, info3, rfl⟩, by decide⟩
    | 1, _ => cases h; exact ⟨_, rfl, rfl, rfl, _, ⟨_, info3, rfl⟩, by decide⟩
  · cases h
    refine ⟨_, und142, rfl, fun i p h => ?_⟩
    have hl : i < 2 := get_lt h
    match i, hl with
    | 0, _ => cases h; exact ⟨_, rfl, rfl, rfl, _, ⟨_, info3, rfl⟩, by decide⟩
    | 1, _ => cases h; exact ⟨_, rfl, rfl, rfl, _, ⟨_, info3, rfl⟩, by decide⟩
  · cases h
    exact ⟨_, und143, rfl⟩
  · cases h
    exact ⟨_, und144, rfl⟩
  · cases h
    exact ⟨_, und147, rfl⟩
  · cases h
    exact ⟨_, und148, rfl⟩
  · cases h
    exact ⟨_, und159, rfl⟩
  · cases h
    exact ⟨_, und162, ⟨rfl, rfl⟩⟩
  · cases h
    exact ⟨_, und164, rfl⟩
  · cases h
    exact ⟨_, und175, rfl⟩
  · cases h
    refine ⟨_, und177, rfl, fun i p h => ?_⟩
    have hl : i < 4 := get_lt h
    match i, hl with
    | 0, _ => cases h; exact ⟨_, rfl, rfl, rfl, _, ⟨_, info33, rfl⟩, by decide⟩
    | 1, _ => cases h; exact ⟨_, rfl, rfl, rfl, _, ⟨_, info30, rfl⟩, by decide⟩
    | 2, _ => cases h; exact ⟨_, rfl, rfl, rfl, _, ⟨_, info30, rfl⟩, by decide⟩
    | 3, _ => cases h; exact ⟨_, rfl, rfl, rfl, _, ⟨_, info4, rfl⟩, by decide⟩
  · cases h
    refine ⟨_, und178, rfl, fun i p h => ?_⟩
    have hl : i < 4 := get_lt h
    match i, hl with
    | 0, _ => cases h; exact ⟨_, rfl, rfl, rfl, _, ⟨_, info33, rfl⟩, by decide⟩
    | 1, _ => cases h; exact ⟨_, rfl, rfl, rfl, _, ⟨_, info30, rfl⟩, by decide⟩
    | 2, _ => cases h; exact ⟨_, rfl, rfl, rfl, _, ⟨_, info30, rfl⟩, by decide⟩
    | 3, _ => cases h; exact ⟨_, rfl, rfl, rfl, _, ⟨_, info4, rfl⟩, by decide⟩
  · cases h
theorem iok : ∀ t i, tiA t = some i → ∃ j, Try.prog.info? t = some j ∧ j.size = i.sz ∧ j.bytes = i.bytes := by
  intro t i h
  unfold tiA at h
  split at h
  · cases h; exact ⟨_, info2, rfl, rfl⟩
  · cases h; exact ⟨_, info3, rfl, rfl⟩
  · cases h; exact ⟨_, info4, rfl, rfl⟩
  · cases h; exact ⟨_, info5, rfl, rfl⟩
  · cases h; exact ⟨_, info6, rfl, rfl⟩
  · cases h; exact ⟨_, info7, rfl, rfl⟩
  · cases h; exact ⟨_, info8, rfl, rfl⟩
  · cases h; exact ⟨_, info9, rfl, rfl⟩
  · cases h; exact ⟨_, info10, rfl, rfl⟩
  · cases h; exact ⟨_, info11, rfl, rfl⟩
  · cases h; exact ⟨_, info12, rfl, rfl⟩
  · cases h; exact ⟨_, info13, rfl, rfl⟩
  · cases h; exact ⟨_, info14, rfl, rfl⟩
  · cases h; exact ⟨_, info15, rfl, rfl⟩
  · cases h; exact ⟨_, info16, rfl, rfl⟩
  · cases h; exact ⟨_, info17, rfl, rfl⟩
  · cases h; exact ⟨_, info18, rfl, rfl⟩
  · cases h; exact ⟨_, info19, rfl, rfl⟩
  · cases h; exact ⟨_, info21, rfl, rfl⟩
  · cases h; exact ⟨_, info22, rfl, rfl⟩
  · cases h; exact ⟨_, info23, rfl, rfl⟩
  · cases h; exact ⟨_, info24, rfl, rfl⟩
  · cases h; exact ⟨_, info25, rfl, rfl⟩
  · cases h; exact ⟨_, info26, rfl, rfl⟩
  · cases h; exact ⟨_, info27, rfl, rfl⟩
  · cases h; exact ⟨_, info30, rfl, rfl⟩
  · cases h; exact ⟨_, info31, rfl, rfl⟩
  · cases h; exact ⟨_, info32, rfl, rfl⟩
  · cases h; exact ⟨_, info33, rfl, rfl⟩
  · cases h; exact ⟨_, info42, rfl, rfl⟩
  · cases h; exact ⟨_, info43, rfl, rfl⟩
  · cases h; exact ⟨_, info44, rfl, rfl⟩
  · cases h; exact ⟨_, info45, rfl, rfl⟩
  · cases h; exact ⟨_, info46, rfl, rfl⟩
  · cases h; exact ⟨_, info47, rfl, rfl⟩
  · cases h; exact ⟨_, info52, rfl, rfl⟩
  · cases h; exact ⟨_, info60, rfl, rfl⟩
  · cases h; exact ⟨_, info61, rfl, rfl⟩
  · cases h; exact ⟨_, info71, rfl, rfl⟩
  · cases h; exact ⟨_, info74, rfl, rfl⟩
  · cases h; exact ⟨_, info75, rfl, rfl⟩
  · cases h; exact ⟨_, info90, rfl, rfl⟩
  · cases h; exact ⟨_, info91, rfl, rfl⟩
  · cases h; exact ⟨_, info92, rfl, rfl⟩
  · cases h; exact ⟨_, info93, rfl, rfl⟩
  · cases h; exact ⟨_, info94, rfl, rfl⟩
  · cases h; exact ⟨_, info95, rfl, rfl⟩
  · cases h; exact ⟨_, info96, rfl, rfl⟩
  · cases h; exact ⟨_, info101, rfl, rfl⟩
  · cases h; exact ⟨_, info102, rfl, rfl⟩
  · cases h; exact ⟨_, info103, rfl, rfl⟩
  · cases h; exact ⟨_, info104, rfl, rfl⟩
  · cases h; exact ⟨_, info118, rfl, rfl⟩
  · cases h; exact ⟨_, info119, rfl, rfl⟩
  · cases h; exact ⟨_, info120, rfl, rfl⟩
  · cases h; exact ⟨_, info129, rfl, rfl⟩
  · cases h; exact ⟨_, info130, rfl, rfl⟩
  · cases h; exact ⟨_, info131, rfl, rfl⟩
  · cases h; exact ⟨_, info137, rfl, rfl⟩
  · cases h; exact ⟨_, info138, rfl, rfl⟩
  · cases h; exact ⟨_, info139, rfl, rfl⟩
  · cases h; exact ⟨_, info141, rfl, rfl⟩
  · cases h; exact ⟨_, info142, rfl, rfl⟩
  · cases h; exact ⟨_, info143, rfl, rfl⟩
  · cases h; exact ⟨_, info144, rfl, rfl⟩
  · cases h; exact ⟨_, info147, rfl, rfl⟩
  · cases h; exact ⟨_, info148, rfl, rfl⟩
  · cases h; exact ⟨_, info159, rfl, rfl⟩
  · cases h; exact ⟨_, info162, rfl, rfl⟩
  · cases h; exact ⟨_, info164, rfl, rfl⟩
  · cases h; exact ⟨_, info175, rfl, rfl⟩
  · cases h; exact ⟨_, info177, rfl, rfl⟩
  · cases h; exact ⟨_, info178, rfl, rfl⟩
  · cases h
theorem zok : ∀ t i, tiA t = some i → hasA t = true → szOf tb t = i.sz ∧ ∃ j z, Try.prog.info? t = some j ∧ j.zero = some z ∧ z.cells.size = i.sz ∧
    ∀ m (o : Nat) a, ((tb.cod t).enc m (tb.cod t).zero)[o]? = some a → ∃ v, z.cells[o]? = some v ∧ ((a = .v v ∧ oneC v = true) ∨ ∃ q t', a = .sl q t' [] ∧ v = .slice none 0 0) := by
  intro t i h hh
  unfold tiA at h
  split at h
  · cases h
    refine ⟨rfl, _, _, info2, rfl, rfl, fun m o a h => ?_⟩
    have hl : o < 1 := get_lt h
    match o, hl with
    | 0, _ => cases h; exact ⟨_, rfl, by first | exact .inl ⟨rfl, rfl⟩ | exact .inr ⟨_, _, rfl, rfl⟩⟩
  · cases h
    refine ⟨rfl, _, _, info3, rfl, rfl, fun m o a h => ?_⟩
    have hl : o < 1 := get_lt h
    match o, hl with
    | 0, _ => cases h; exact ⟨_, rfl, by first | exact .inl ⟨rfl, rfl⟩ | exact .inr ⟨_, _, rfl, rfl⟩⟩
  · cases h
    refine ⟨rfl, _, _, info4, rfl, rfl, fun m o a h => ?_⟩
    have hl : o < 1 := get_lt h
    match o, hl with
    | 0, _ => cases h; exact ⟨_, rfl, by first | exact .inl ⟨rfl, rfl⟩ | exact .inr ⟨_, _, rfl, rfl⟩⟩
  · cases hh
  · cases h
    refine ⟨rfl, _, _, info6, rfl, rfl, fun m o a h => ?_⟩
    have hl : o < 1 := get_lt h
    match o, hl with
    | 0, _ => cases h; exact ⟨_, rfl, by first | exact .inl ⟨rfl, rfl⟩ | exact .inr ⟨_, _, rfl, rfl⟩⟩
  · cases hh
  · cases hh
  · cases h
    refine ⟨rfl, _, _, info9, rfl, rfl, fun m o a h => ?_⟩
    have hl : o < 1 := get_lt h
    match o, hl with
    | 0, _ => cases h; exact ⟨_, rfl, by first | exact .inl ⟨rfl, rfl⟩ | exact .inr ⟨_, _, rfl, rfl⟩⟩
  · cases hh
  · cases hh
  · cases hh
  · cases hh
  · cases hh
  · cases hh
  · cases hh
  · cases hh
  · cases hh
  · cases hh
  · cases hh
  · cases h
    refine ⟨rfl, _, _, info22, rfl, rfl, fun m o a h => ?_⟩
    have hl : o < 1 := get_lt h
    match o, hl with
    | 0, _ => cases h; exact ⟨_, rfl, by first | exact .inl ⟨rfl, rfl⟩ | exact .inr ⟨_, _, rfl, rfl⟩⟩
  · cases h
    refine ⟨rfl, _, _, info23, rfl, rfl, fun m o a h => ?_⟩
    have hl : o < 1 := get_lt h
    match o, hl with
    | 0, _ => cases h; exact ⟨_, rfl, by first | exact .inl ⟨rfl, rfl⟩ | exact .inr ⟨_, _, rfl, rfl⟩⟩
  · cases h
    refine ⟨rfl, _, _, info24, rfl, rfl, fun m o a h => ?_⟩
    have hl : o < 1 := get_lt h
    match o, hl with
    | 0, _ => cases h; exact ⟨_, rfl, by first | exact .inl ⟨rfl, rfl⟩ | exact .inr ⟨_, _, rfl, rfl⟩⟩
  · cases h
    refine ⟨rfl, _, _, info25, rfl, rfl, fun m o a h => ?_⟩
    have hl : o < 1 := get_lt h
    match o, hl with
    | 0, _ => cases h; exact ⟨_, rfl, by first | exact .inl ⟨rfl, rfl⟩ | exact .inr ⟨_, _, rfl, rfl⟩⟩
  · cases hh
  · cases h
    refine ⟨rfl, _, _, info27, rfl, rfl, fun m o a h => ?_⟩
    have hl : o < 4 := get_lt h
    match o, hl with
    | 0, _ => cases h; exact ⟨_, rfl, by first | exact .inl ⟨rfl, rfl⟩ | exact .inr ⟨_, _, rfl, rfl⟩⟩
    | 1, _ => cases h; exact ⟨_, rfl, by first | exact .inl ⟨rfl, rfl⟩ | exact .inr ⟨_, _, rfl, rfl⟩⟩
    | 2, _ => cases h; exact ⟨_, rfl, by first | exact .inl ⟨rfl, rfl⟩ | exact .inr ⟨_, _, rfl, rfl⟩⟩
    | 3, _ => cases h; exact ⟨_, rfl, by first | exact .inl ⟨rfl, rfl⟩ | exact .inr ⟨_, _, rfl, rfl⟩⟩
  · cases h
    refine ⟨rfl, _, _, info30, rfl, rfl, fun m o a h => ?_⟩
    have hl : o < 1 := get_lt h
    match o, hl with
    | 0, _ => cases h; exact ⟨_, rfl, by first | exact .inl ⟨rfl, rfl⟩ | exact .inr ⟨_, _, rfl, rfl⟩⟩
  · cases h
    refine ⟨rfl, _, _, info31, rfl, rfl, fun m o a h => ?_⟩
    have hl : o < 1 := get_lt h
    match o, hl with
    | 0, _ => cases h; exact ⟨_, rfl, by first | exact .inl ⟨rfl, rfl⟩ | exact .inr ⟨_, _, rfl, rfl⟩⟩
  · cases hh
  · cases h
    refine ⟨rfl, _, _, info33, rfl, rfl, fun m o a h => ?_⟩
    have hl : o < 5 := get_lt h
    match o, hl with
    | 0, _ => cases h; exact ⟨_, rfl, by first | exact .inl ⟨rfl, rfl⟩ | exact .inr ⟨_, _, rfl, rfl⟩⟩
    | 1, _ => cases h; exact ⟨_, rfl, by first | exact .inl ⟨rfl, rfl⟩ | exact .inr ⟨_, _, rfl, rfl⟩⟩
    | 2, _ => cases h; exact ⟨_, rfl, by first | exact .inl ⟨rfl, rfl⟩ | exact .inr ⟨_, _, rfl, rfl⟩⟩
    | 3, _ => cases h; exact ⟨_, rfl, by first | exact .inl ⟨rfl, rfl⟩ | exact .inr ⟨_, _, rfl, rfl⟩⟩
    | 4, _ => cases h; exact ⟨_, rfl, by first | exact .inl ⟨rfl, rfl⟩ | exact .inr ⟨_, _, rfl, rfl⟩⟩
  · cases h
    refine ⟨rfl, _, _, info42, rfl, rfl, fun m o a h => ?_⟩
    have hl : o < 1 := get_lt h
    match o, hl with
    | 0, _ => cases h; exact ⟨_, rfl, by first | exact .inl ⟨rfl, rfl⟩ | exact .inr ⟨_, _, rfl, rfl⟩⟩
  · cases hh
  · cases h
    refine ⟨rfl, _, _, info44, rfl, rfl, fun m o a h => ?_⟩
    have hl : o < 1 := get_lt h
    match o, hl with
    | 0, _ => cases h; exact ⟨_, rfl, by first | exact .inl ⟨rfl, rfl⟩ | exact .inr ⟨_, _, rfl, rfl⟩⟩
  · cases hh
  · cases h
    refine ⟨rfl, _, _, info46, rfl, rfl, fun m o a h => ?_⟩
    have hl : o < 7 := get_lt h
    match o, hl with
    | 0, _ => cases h; exact ⟨_, rfl, by first | exact .inl ⟨rfl, rfl⟩ | exact .inr ⟨_, _, rfl, rfl⟩⟩
    | 1, _ => cases h; exact ⟨_, rfl, by first | exact .inl ⟨rfl, rfl⟩ | exact .inr ⟨_, _, rfl, rfl⟩⟩
    | 2, _ => cases h; exact ⟨_, rfl, by first | exact .inl ⟨rfl, rfl⟩ | exact .inr ⟨_, _, rfl, rfl⟩⟩
    | 3, _ => cases h; exact ⟨_, rfl, by first | exact .inl ⟨rfl, rfl⟩ | exact .inr ⟨_, _, rfl, rfl⟩⟩
    | 4, _ => cases h; exact ⟨_, rfl, by first | exact .inl ⟨rfl, rfl⟩ | exact .inr ⟨_, _, rfl, rfl⟩⟩
    | 5, _ => cases h; exact ⟨_, rfl, by first | exact .inl ⟨rfl, rfl⟩ | exact .inr ⟨_, _, rfl, rfl⟩⟩
    | 6, _ => cases h; exact ⟨_, rfl, by first | exact .inl ⟨rfl, rfl⟩ | exact .inr ⟨_, _, rfl, rfl⟩⟩
  · cases hh
  · cases h
    refine ⟨rfl, _, _, info52, rfl, rfl, fun m o a h => ?_⟩
    have hl : o < 1 := get_lt h
    match o, hl with
    | 0, _ => cases h; exact ⟨_, rfl, by first | exact .inl ⟨rfl, rfl⟩ | exact .inr ⟨_, _, rfl, rfl⟩⟩
  · cases hh
  · cases hh
  · cases h
    refine ⟨rfl, _, _, info71, rfl, rfl, fun m o a h => ?_⟩
    have hl : o < 1 := get_lt h
    match o, hl with
    | 0, _ => cases h; exact ⟨_, rfl, by first | exact .inl ⟨rfl, rfl⟩ | exact .inr ⟨_, _, rfl, rfl⟩⟩
  · cases hh
  · cases hh
  · cases hh
  · cases h
    refine ⟨rfl, _, _, info91, rfl, rfl, fun m o a h => ?_⟩
    have hl : o < 3 := get_lt h
    match o, hl with
    | 0, _ => cases h; exact ⟨_, rfl, by first | exact .inl ⟨rfl, rfl⟩ | exact .inr ⟨_, _, rfl, rfl⟩⟩
    | 1, _ => cases h; exact ⟨_, rfl, by first | exact .inl ⟨rfl, rfl⟩ | exact .inr ⟨_, _, rfl, rfl⟩⟩
    | 2, _ => cases h; exact ⟨_, rfl, by first | exact .inl ⟨rfl, rfl⟩ | exact .inr ⟨_, _, rfl, rfl⟩⟩
  · cases h
    refine ⟨rfl, _, _, info92, rfl, rfl, fun m o a h => ?_⟩
    have hl : o < 1 := get_lt h
    match o, hl with
    | 0, _ => cases h; exact ⟨_, rfl, by first | exact .inl ⟨rfl, rfl⟩ | exact .inr ⟨_, _, rfl, rfl⟩⟩
  · cases hh
  · cases h
    refine ⟨rfl, _, _, info94, rfl, rfl, fun m o a h => ?_⟩
    have hl : o < 2 := get_lt h
    match o, hl with
    | 0, _ => cases h; exact ⟨_, rfl, by first | exact .inl ⟨rfl, rfl⟩ | exact .inr ⟨_, _, rfl, rfl⟩⟩
    | 1, _ => cases h; exact ⟨_, rfl, by first | exact .inl ⟨rfl, rfl⟩ | exact .inr ⟨_, _, rfl, rfl⟩⟩
  · cases hh
  · cases h
    refine ⟨rfl, _, _, info96, rfl, rfl, fun m o a h => ?_⟩
    have hl : o < 2 := get_lt h
    match o, hl with
    | 0, _ => cases h; exact ⟨_, rfl, by first | exact .inl ⟨rfl, rfl⟩ | exact .inr ⟨_, _, rfl, rfl⟩⟩
    | 1, _ => cases h; exact ⟨_, rfl, by first | exact .inl ⟨rfl, rfl⟩ | exact .inr ⟨_, _, rfl, rfl⟩⟩
  · cases h
    refine ⟨rfl, _, _, info101, rfl, rfl, fun m o a h => ?_⟩
    have hl : o < 1 := get_lt h
    match o, hl with
    | 0, _ => cases h; exact ⟨_, rfl, by first | exact .inl ⟨rfl, rfl⟩ | exact .inr ⟨_, _, rfl, rfl⟩⟩
  · cases hh
  · cases hh
  · cases hh
  · cases hh
  · cases hh
  · cases hh
  · cases hh
  · cases hh
  · cases hh
  · cases hh
  · cases hh
  · cases hh
  · cases hh
  · cases hh
  · cases hh
  · cases hh
  · cases hh
  · cases hh
  · cases hh
  · cases hh
  · cases hh
  · cases hh
  · cases hh
  · cases hh
  · cases h
theorem mok : ∀ t kd q, mapsA t = some (kd, q) → ∃ kt et j, Try.prog.underlying t = some (.map kt et) ∧ Try.prog.underlying kt = some (kdDesc kd) ∧ Try.prog.info? et = some j ∧ j.zero = some (.int q 0) := by
  intro t kd q h
  unfold mapsA at h
  split at h
  · cases h; exact ⟨3, 3, Try.t3, by kernel_rfl, by kernel_rfl, by kernel_rfl, by kernel_rfl⟩
  · cases h; exact ⟨9, 3, Try.t3, by kernel_rfl, by kernel_rfl, by kernel_rfl, by kernel_rfl⟩
  · cases h
theorem tbOk : TbOk tb Try.prog := ⟨mok, dok, iok, zok⟩
theorem mixed : Try.prog.follows .mixedOrders = true := by kernel_rfl
end Go.Proofs.Ytggibjbcbicpjaa.Ev
