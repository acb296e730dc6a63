/- It proves, for every row of bytes and every place, that what is got there, put again, is the same bytes, and how a get fails otherwise. No condition. -/
import Derived.Test.YtnibdgjlbhdmfaaOneLaw
import Derived.Test.YtnibdgjlbhdmfaaWireAid
namespace Go.Proofs.Ytnibdgjlbhdmfaa.OnePure
open Go.RowKit Go.Proofs.Ytnibdgjlbhdmfaa.MWireTells Go.Proofs.Ytnibdgjlbhdmfaa.MWireOne Go.Proofs.Ytnibdgjlbhdmfaa.WireAid Go.Proofs.YtnibdgjlbhdmfaaW.PrintWords Go.Proofs.YtnibdgjlbhdmfaaW.PrintLast Go.Proofs.YtnibdgjlbhdmfaaW.PrintMore
theorem bytes_of {l : List Int} (h : ∀ x ∈ l, (Lit.int .u8 x).wf = true) : Bytes l := by
  intro x hx
  have := h x hx
  simp [Lit.wf, IntKind.min, IntKind.max, IntKind.signed, IntKind.bits] at this
  omega
theorem first_true (k : Nat) (hk : 30 ≤ k) : plnlaw2_first.f k = some true := by
  unfold plnlaw2_first.f
  rw [get_is [17, 1] (by intro x hx; simp at hx; omega) (by decide) 0 k hk, put_is [] 300 ⟨by decide, by decide⟩ (by decide) k hk, put_is [] (-2) ⟨by decide, by decide⟩ (by decide) k hk]
  have e1 : enc 300 = [2, 1, 44] := by
    simp [enc, digs]
  have e2 : enc (-2) = [17, 1] := by
    simp [enc, digs]
  have e3 : WireAid.get [17, 1] 0 = (-2, 2, 0) := by
    have := get_enc [] [] (-2) ⟨by decide, by decide⟩
    rw [e2] at this
    simpa using this
  rw [e1, e2, e3]
  simp only [Option.bind_some, List.nil_append]
  decide +kernel
theorem WireOne : plnlaw2_WireOne.Pure := by
  intro l a _ hl hb ha
  have hB := bytes_of hb
  refine ⟨40, ?_⟩
  unfold plnlaw2_WireOne.f
  rw [first_true 40 (by decide)]
  simp only [Option.bind_some, if_true]
  by_cases h3 : (l.length : Int) > 300
  · rw [if_pos h3]
  rw [if_neg h3, get_is l hB (by omega) a 40 (by decide)]
  simp only [Option.bind_some]
  have hR : (Lit.int .i64 a).wf = true := ha
  by_cases h0 : a < 0 ∨ (l.length : Int) < a
  · have e : WireAid.get l a = (0, 0, 8) := by unfold WireAid.get; rw [if_pos h0]
    rw [e]
    have hj : plnlaw2_WireOne.j0 40 l a 0 0 8 true = some true := by simp [plnlaw2_WireOne.j0]
    rcases h0 with h0 | h0
    · rw [if_pos h0]; exact hj
    · rw [if_neg (by omega), decide_eq_true (show a > (l.length : Int) by omega)]; exact hj
  · rw [if_neg (by omega), decide_eq_false (show ¬ a > (l.length : Int) by omega)]
    have hne : WireAid.get l a ≠ (0, 0, 8) := by
      unfold WireAid.get
      rw [if_neg h0]
      repeat' (first | (simp; done) | split)
    rcases get_ends l a with he | he | he
    · obtain ⟨⟨n, x, c⟩, hg⟩ : ∃ p, WireAid.get l a = p := ⟨_, rfl⟩
      rw [hg] at he
      simp only [] at he
      subst he
      obtain ⟨g0, g1, g2, g3, g4⟩ := get_ok l hB a n x hg
      rw [hg]
      simp only [plnlaw2_WireOne.j0]
      rw [if_neg (by simp), if_pos trivial, if_pos g1, if_pos g2, put_is [] n g3 (by simp) 39 (by decide)]
      simp only [Option.bind_some, List.nil_append]
      rw [if_pos g0, if_pos (by omega), g4]
      simp
    · rw [he]; simp [plnlaw2_WireOne.j0]
    · exact absurd he hne
end Go.Proofs.Ytnibdgjlbhdmfaa.OnePure
