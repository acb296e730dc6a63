/- It proves, for every number, every text and every two rows of bytes, that what is put is got, whatever is ahead and behind, and that what was handed in stays. No condition. -/
import Derived.Test.YtnibdgjlbhdmfaaBackLaw
import Derived.Test.YtnibdgjlbhdmfaaWireAid
import Derived.Lib.Strings
import Derived.Lib.SmallJoins
namespace Go.Proofs.Ytnibdgjlbhdmfaa.BackPure
open Go.RowKit Go.Proofs.Ytnibdgjlbhdmfaa.MWireTells Go.Proofs.Ytnibdgjlbhdmfaa.MWireBack Go.Proofs.Ytnibdgjlbhdmfaa.WireAid Go.Proofs.YtnibdgjlbhdmfaaW.PrintWords Go.Proofs.YtnibdgjlbhdmfaaW.PrintLast Go.Proofs.YtnibdgjlbhdmfaaW.PrintMore
theorem r64 {a : Int} (h : (Lit.int .i64 a).wf = true) : R64 a := by
  simp [Lit.wf, IntKind.min, IntKind.max, IntKind.signed, IntKind.bits] at h
  exact ⟨by omega, by omega⟩
theorem bytes_of {l : List Int} (h : ∀ x ∈ l, (Lit.int .u8 x).wf = true) : Bytes l := by
  intro x hx
  have := h x hx
  simp [Lit.wf, IntKind.min, IntKind.max, IntKind.signed, IntKind.bits] at this
  omega
theorem first_true (k : Nat) (hk : 30 ≤ k) : plnlaw2_first.f k = some true := by
  unfold plnlaw2_first.f
  rw [get_is [17, 1] (by intro x hx; simp at hx; omega) (by decide) 0 k hk, put_is [] 300 ⟨by decide, by decide⟩ (by decide) k hk, put_is [] (-2) ⟨by decide, by decide⟩ (by decide) k hk]
  have e1 : enc 300 = [2, 1, 44] := by
    simp [enc, digs]
  have e2 : enc (-2) = [17, 1] := by
    simp [enc, digs]
  have e3 : WireAid.get [17, 1] 0 = (-2, 2, 0) := by
    have := get_enc [] [] (-2) ⟨by decide, by decide⟩
    rw [e2] at this
    simpa using this
  rw [e1, e2, e3]
  simp only [Option.bind_some, List.nil_append]
  decide +kernel
theorem bytesOf_bytes (s : ByteArray) : Bytes (bytesOf s) := by
  intro x hx
  unfold bytesOf at hx
  obtain ⟨b, _, rfl⟩ := List.mem_map.1 hx
  have := b.toNat_lt
  omega
theorem str_back (s : ByteArray) : strOfNums (bytesOf s) = s := by
  have h : (strOfNums (bytesOf s)).data.toList = s.data.toList := by
    rw [strOfNums_data, bytesOf, List.map_map]
    apply List.ext_getElem?
    intro i
    rw [List.getElem?_map]
    cases s.data.toList[i]? with
    | none => rfl
    | some b => simp
  have h2 := Array.toList_inj.1 h
  cases s; cases hx : strOfNums (bytesOf ⟨_⟩); rw [hx] at h2; simp at h2; simp [h2]
theorem toList_append4 (l : List Int) : (strOfNums (l ++ [7, 7, 7, 7])).toList = ((strOfNums l) ++ (⟨#[7, 7, 7, 7]⟩ : ByteArray)).toList := by
  rw [Lib.toList_data, Lib.toList_data, strOfNums_data, Go.Joins.data_append, strOfNums_data, List.map_append]
  rfl
theorem WireBack : plnlaw2_WireBack.Pure := by
  intro n s p q hn hs _ hp hpb _ hq hqb
  have hP := bytes_of hpb
  have hQ := bytes_of hqb
  have hn := r64 hn
  obtain ⟨m, hm⟩ : ∃ m : Nat, 100 ≤ m := ⟨100, Nat.le_refl _⟩
  refine ⟨m + 1 + 1, ?_⟩
  unfold plnlaw2_WireBack.f
  rw [first_true (m + 1 + 1) (by omega)]
  simp only [Option.bind_some, if_true]
  have j1 : plnlaw2_WireBack.j0 (m + 1 + 1) n s p q true = some true := by
    simp only [plnlaw2_WireBack.j0]
    rw [if_pos trivial, first_true (m + 1) (by omega)]; rfl
  by_cases h4 : (s.size : Int) > 300
  · rw [if_pos h4]; exact j1
  rw [if_neg h4]
  by_cases h5 : (p.length : Int) > 100
  · rw [if_pos h5]; exact j1
  rw [if_neg h5]
  by_cases h6 : (q.length : Int) > 100
  · rw [decide_eq_true h6]; exact j1
  rw [decide_eq_false h6]
  have hsz : R64 (s.size : Int) := ⟨by omega, by omega⟩
  have lb := bytesOf_length s
  have le := enc_len n hn
  have ls := enc_len (s.size : Int) hsz
  simp only [plnlaw2_WireBack.j0]
  rw [if_neg (by simp)]
  simp only [Option.bind_some, List.nil_append, List.length_nil]
  rw [if_pos (by omega), if_pos (by simp; omega)]
  have et : (p ++ [7, 7, 7, 7]).take ((p.length : Int) : Int).toNat = p := by rw [Int.toNat_natCast, List.take_left]
  have w4 : wrap64 ((p.length : Int) + 4) = (p.length : Int) + 4 := w64 (by omega)
  have e4 : (p ++ [7, 7, 7, 7]).take ((p.length : Int) + 4).toNat = p ++ [7, 7, 7, 7] := List.take_of_length_le (by simp; omega)
  have hstr : ∀ y : List Int, y = p ++ [7, 7, 7, 7] → (strOfNums y).toList = ((strOfNums p) ++ (⟨#[7, 7, 7, 7]⟩ : ByteArray)).toList := fun y hy => by rw [hy]; exact toList_append4 p
  have hl4 : (p ++ [7, 7, 7, 7]).length = p.length + 4 := by simp
  rw [if_pos (by omega), if_pos (by omega), et]
  unfold wire_PutText.f
  rw [put_is p n hn (by omega) (m + 1) (by omega), put_is p _ hsz (by omega) (m + 1) (by omega)]
  simp only [Option.bind_some]
  rw [if_pos (by rw [List.length_append]; omega)]
  simp only [Option.bind_some]
  have la : (p ++ enc n).length = p.length + (enc n).length := by rw [List.length_append]
  have lt : (p ++ enc (s.size : Int) ++ bytesOf s).length = p.length + (enc (s.size : Int)).length + s.size := by rw [List.length_append, List.length_append, lb]
  have w1 : wrap64 ((p.length : Int) + 1) = (p.length : Int) + 1 := w64 (by omega)
  have w2 : wrap64 ((p.length : Int) + 1 + (s.size : Int)) = (p.length : Int) + 1 + (s.size : Int) := w64 (by omega)
  rw [w4, if_pos (by omega), if_pos (by omega), if_pos (by rw [strOfNums_size]; omega), if_pos (hstr _ e4), if_neg (by omega), w1, w2, decide_eq_false (by omega)]
  simp only [plnlaw2_WireBack.j1]
  rw [if_neg (by simp)]
  simp only [Option.bind_some, List.nil_append, List.length_nil]
  rw [if_pos (by omega)]
  simp only [Option.bind_some]
  rw [if_pos (by omega)]
  have hB1 : Bytes (p ++ enc n ++ q) := (hP.append (enc_bytes n hn)).append hQ
  have hB2 : Bytes (p ++ enc (s.size : Int) ++ bytesOf s ++ q) := ((hP.append (enc_bytes _ hsz)).append (bytesOf_bytes s)).append hQ
  rw [get_is _ hB1 (by rw [List.length_append]; omega) _ m (by omega), get_enc p q n hn]
  simp only [Option.bind_some]
  rw [if_pos (by omega)]
  simp only [Option.bind_some]
  rw [if_pos (by omega)]
  have gt : wire_GetText.f m (p ++ enc (s.size : Int) ++ bytesOf s ++ q) (p.length : Int) (s.size : Int) = some (s, ((p ++ enc (s.size : Int) ++ bytesOf s).length : Int), 0) := by
    unfold wire_GetText.f
    have hg := get_enc p (bytesOf s ++ q) (s.size : Int) hsz
    rw [← List.append_assoc] at hg
    have lall : (p ++ enc (s.size : Int) ++ bytesOf s ++ q).length = p.length + (enc (s.size : Int)).length + s.size + q.length := by rw [List.length_append, lt]
    rw [get_is _ hB2 (by omega) _ m (by omega), hg]
    simp only [Option.bind_some, if_true]
    rw [if_neg (by omega), if_neg (by omega), w64 (a := ((p ++ enc (s.size : Int) ++ bytesOf s ++ q).length : Int) - ((p.length : Int) + (enc (s.size : Int)).length)) (by omega), if_neg (by omega),
      w64 (a := (p.length : Int) + (enc (s.size : Int)).length + (s.size : Int)) (by omega), if_pos (by omega), if_pos (by omega), if_pos (by omega)]
    have e5 : ((p ++ enc (s.size : Int) ++ bytesOf s ++ q).take ((p.length : Int) + (enc (s.size : Int)).length + (s.size : Int)).toNat).drop ((p.length : Int) + (enc (s.size : Int)).length).toNat = bytesOf s := by
      rw [show ((p.length : Int) + (enc (s.size : Int)).length + (s.size : Int)).toNat = (p ++ enc (s.size : Int) ++ bytesOf s).length by omega, List.take_left]
      rw [show ((p.length : Int) + (enc (s.size : Int)).length).toNat = (p ++ enc (s.size : Int)).length by rw [List.length_append]; omega, List.drop_left]
    rw [e5, str_back]
    congr 2
    simp [lt]
  rw [gt]
  simp only [Option.bind_some, if_true]
  rw [if_pos (by rw [la]; omega), if_pos (by omega), if_pos (by omega), Int.toNat_natCast, List.take_left]
  simp
end Go.Proofs.Ytnibdgjlbhdmfaa.BackPure
