/- It proves, for every row of bytes, every place, number and text, that wire.Get, GetText, Put and PutText answer as the document's functions do. No condition. -/
import Derived.Test.YtnibdgjlbhdmfaaTellsLaw
import Derived.Test.YtnibdgjlbhdmfaaWireAid
namespace Go.Proofs.Ytnibdgjlbhdmfaa.TellsPure
open Go.RowKit Go.Proofs.Ytnibdgjlbhdmfaa.MWireTells Go.Proofs.Ytnibdgjlbhdmfaa.WireAid Go.Proofs.YtnibdgjlbhdmfaaW.PrintWords Go.Proofs.YtnibdgjlbhdmfaaW.PrintLast Go.Proofs.YtnibdgjlbhdmfaaW.PrintMore
theorem r64 {a : Int} (h : (Lit.int .i64 a).wf = true) : R64 a := by
  simp [Lit.wf, IntKind.min, IntKind.max, IntKind.signed, IntKind.bits] at h
  exact ⟨by omega, by omega⟩
theorem bytes_of {l : List Int} (h : ∀ x ∈ l, (Lit.int .u8 x).wf = true) : Bytes l := by
  intro x hx
  have := h x hx
  simp [Lit.wf, IntKind.min, IntKind.max, IntKind.signed, IntKind.bits] at this
  omega
theorem first_true (k : Nat) (hk : 30 ≤ k) : plnlaw2_first.f k = some true := by
  unfold plnlaw2_first.f
  rw [get_is [17, 1] (by intro x hx; simp at hx; omega) (by decide) 0 k hk, put_is [] 300 ⟨by decide, by decide⟩ (by decide) k hk, put_is [] (-2) ⟨by decide, by decide⟩ (by decide) k hk]
  have e1 : enc 300 = [2, 1, 44] := by
    simp [enc, digs]
  have e2 : enc (-2) = [17, 1] := by
    simp [enc, digs]
  have e3 : WireAid.get [17, 1] 0 = (-2, 2, 0) := by
    have := get_enc [] [] (-2) ⟨by decide, by decide⟩
    rw [e2] at this
    simpa using this
  rw [e1, e2, e3]
  simp only [Option.bind_some, List.nil_append]
  decide +kernel
theorem text_same (l : List Int) (hB : Bytes l) (hl : l.length ≤ 140737488355000) (a m : Int) (k : Nat) (hk : 30 ≤ k) : ∃ r, wire_GetText.f k l a m = some r ∧ plnref1_GetText.f k l a m = some r := by
  unfold wire_GetText.f plnref1_GetText.f
  rw [get_is l hB hl a k hk, ref_get_is l hB hl a k hk]
  simp only [Option.bind_some]
  obtain ⟨⟨n, x, c⟩, hg⟩ : ∃ p, WireAid.get l a = p := ⟨_, rfl⟩
  rw [hg]
  by_cases h0 : c = 0
  · subst h0
    obtain ⟨g0, g1, g2, g3, g4⟩ := get_ok l hB a n x hg
    have w1 : wrap64 ((l.length : Int) - x) = (l.length : Int) - x := w64 (by omega)
    simp only [if_true]
    by_cases h1 : n < 0
    · rw [if_pos h1]; exact ⟨_, rfl, rfl⟩
    rw [if_neg h1]
    by_cases h2 : n > m
    · rw [if_pos h2]; exact ⟨_, rfl, rfl⟩
    rw [if_neg h2, w1]
    by_cases h3 : n > (l.length : Int) - x
    · rw [if_pos h3]; exact ⟨_, rfl, rfl⟩
    rw [if_neg h3, w64 (a := x + n) (by omega), if_pos (by omega), if_pos (by omega), if_pos (by omega)]
    exact ⟨_, rfl, rfl⟩
  · rw [if_neg h0]; exact ⟨_, rfl, rfl⟩
theorem WireTells : plnlaw2_WireTells.Pure := by
  intro l a m n s _ hl hb ha hm hn hs
  have hB := bytes_of hb
  have hn := r64 hn
  refine ⟨80, ?_⟩
  unfold plnlaw2_WireTells.f
  rw [first_true 80 (by decide)]
  simp only [Option.bind_some, if_true]
  have j1 : plnlaw2_WireTells.j0 80 l a m n s true = some true := by
    simp only [plnlaw2_WireTells.j0]
    rw [if_pos trivial, first_true 79 (by decide)]; rfl
  by_cases h4 : (l.length : Int) > 400
  · rw [if_pos h4]; exact j1
  rw [if_neg h4]
  by_cases h5 : (s.size : Int) > 400
  · rw [decide_eq_true h5]; exact j1
  rw [decide_eq_false h5]
  have hsz : R64 (s.size : Int) := ⟨by omega, by omega⟩
  have lb := bytesOf_length s
  have ls := enc_len (s.size : Int) hsz
  obtain ⟨⟨t, p, g⟩, q1, q2⟩ := text_same l hB (by omega) a m 79 (by decide)
  simp only [plnlaw2_WireTells.j0]
  rw [if_neg (by simp), get_is l hB (by omega) a 79 (by decide), ref_get_is l hB (by omega) a 79 (by decide), q1, q2]
  unfold wire_PutText.f plnref1_PutText.f
  rw [put_is l n hn (by omega) 79 (by decide), ref_put_is l n hn (by omega) 79 (by decide), put_is l _ hsz (by omega) 79 (by decide), ref_put_is l _ hsz (by omega) 79 (by decide)]
  simp only [Option.bind_some, if_true]
  rw [if_pos (by rw [List.length_append]; omega)]
  simp
end Go.Proofs.Ytnibdgjlbhdmfaa.TellsPure
