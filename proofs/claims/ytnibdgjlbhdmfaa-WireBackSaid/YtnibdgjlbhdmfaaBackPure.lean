/- It proves, for every number, every text and every two rows of bytes, that what is put is got, whatever is ahead and behind, and that what was handed in stays. No condition. -/
import Derived.Test.YtnibdgjlbhdmfaaBackLaw
import Derived.Test.YtnibdgjlbhdmfaaWireAid
import Derived.Lib.Strings
import Derived.Lib.SmallJoins
import Derived.Lib.Hide
namespace Go.Proofs.Ytnibdgjlbhdmfaa.BackPure
open Go.RowKit Go.Proofs.Ytnibdgjlbhdmfaa.MWireTells Go.Proofs.Ytnibdgjlbhdmfaa.MWireBack Go.Proofs.Ytnibdgjlbhdmfaa.WireAid Go.Proofs.YtnibdgjlbhdmfaaW.PrintWords Go.Proofs.YtnibdgjlbhdmfaaW.PrintLast Go.Proofs.YtnibdgjlbhdmfaaW.PrintMore
theorem r64 {a : Int} (h : (Lit.int .i64 a).wf = true) : R64 a := by
  simp [Lit.wf, IntKind.min, IntKind.max, IntKind.signed, IntKind.bits] at h
  exact ⟨by omega, by omega⟩
theorem bytes_of {l : List Int} (h : ∀ x ∈ l, (Lit.int .u8 x).wf = true) : Bytes l := by
  intro x hx
  have := h x hx
  simp [Lit.wf, IntKind.min, IntKind.max, IntKind.signed, IntKind.bits] at this
  omega
theorem first_true (k : Nat) (hk : 30 ≤ k) : plnlaw2_first.f k = some true := by
  unfold plnlaw2_first.f
  rw [get_is [17, 1] (by intro x hx; simp at hx; omega) (by decide) 0 k hk, put_is [] 300 ⟨by decide, by decide⟩ (by decide) k hk, put_is [] (-2) ⟨by decide, by decide⟩ (by decide) k hk]
  have e1 : enc 300 = [2, 1, 44] := by
    simp [enc, digs]
  have e2 : enc (-2) = [17, 1] := by
    simp [enc, digs]
  have e3 : WireAid.get [17, 1] 0 = (-2, 2, 0) := by
    have := get_enc [] [] (-2) ⟨by decide, by decide⟩
    rw [e2] at this
    simpa using this
  rw [e1, e2, e3]
  simp only [Option.bind_some, List.nil_append]
  decide +kernel
theorem bytesOf_bytes (s : ByteArray) : Bytes (bytesOf s) := by
  intro x hx
  unfold bytesOf at hx
  obtain ⟨b, _, rfl⟩ := List.mem_map.1 hx
  have := b.toNat_lt
  omega
theorem str_back (s : ByteArray) : strOfNums (bytesOf s) = s := by
  have h : (strOfNums (bytesOf s)).data.toList = s.data.toList := by
    rw [strOfNums_data, bytesOf, List.map_map]
    apply List.ext_getElem?
    intro i
    rw [List.getElem?_map]
    cases s.data.toList[i]? with
    | none => rfl
    | some b => simp
  have h2 := Array.toList_inj.1 h
  cases s; cases hx : strOfNums (bytesOf ⟨_⟩); rw [hx] at h2; simp at h2; simp [h2]
theorem toList_append4 (l : List Int) : (strOfNums (l ++ [7, 7, 7, 7])).toList = ((strOfNums l) ++ (⟨#[7, 7, 7, 7]⟩ : ByteArray)).toList := by
  rw [Lib.toList_data, Lib.toList_data, strOfNums_data, Go.Joins.data_append, strOfNums_data, List.map_append]
  rfl
theorem tail_true (m : Nat) (hm : 100 ≤ m) (n : Int) (s : ByteArray) (p q : List Int) (hn : R64 n) (hP : Bytes p) (hQ : Bytes q) (h4 : s.size ≤ 300) (h5 : p.length ≤ 100) (h6 : q.length ≤ 100) :
    plnlaw2_WireBack.j1 (m + 1) n s p q (p ++ enc n) (p ++ enc (s.size : Int) ++ bytesOf s) false = some true := by
  have hsz : R64 (s.size : Int) := ⟨by omega, by omega⟩
  have lb := bytesOf_length s
  have le := enc_len n hn
  have ls := enc_len (s.size : Int) hsz
  have la : (p ++ enc n).length = p.length + (enc n).length := by rw [List.length_append]
  have lt : (p ++ enc (s.size : Int) ++ bytesOf s).length = p.length + (enc (s.size : Int)).length + s.size := by rw [List.length_append, List.length_append, lb]
  have lq : (p ++ enc n ++ q).length = p.length + (enc n).length + q.length := by rw [List.length_append, la]
  have lall : (p ++ enc (s.size : Int) ++ bytesOf s ++ q).length = p.length + (enc (s.size : Int)).length + s.size + q.length := by rw [List.length_append, lt]
  have hB1 : Bytes (p ++ enc n ++ q) := (hP.append (enc_bytes n hn)).append hQ
  have hB2 : Bytes (p ++ enc (s.size : Int) ++ bytesOf s ++ q) := ((hP.append (enc_bytes _ hsz)).append (bytesOf_bytes s)).append hQ
  have g1 : wire_Get.f m (p ++ enc n ++ q) (p.length : Int) = some (n, ((p ++ enc n).length : Int), 0) := by
    rw [get_is _ hB1 (by omega) _ m (by omega), get_enc p q n hn, la]
    congr 3
  have gt : wire_GetText.f m (p ++ enc (s.size : Int) ++ bytesOf s ++ q) (p.length : Int) (s.size : Int) = some (s, ((p ++ enc (s.size : Int) ++ bytesOf s).length : Int), 0) := by
    unfold wire_GetText.f
    have hg := get_enc p (bytesOf s ++ q) (s.size : Int) hsz
    rw [← List.append_assoc] at hg
    rw [get_is _ hB2 (by omega) _ m (by omega), hg]
    simp only [Option.bind_some, if_true]
    have a1 : ¬ ((s.size : Int) < 0) := by omega
    have a2 : ¬ ((s.size : Int) > (s.size : Int)) := by omega
    have a4 : ¬ ((s.size : Int) > ((p ++ enc (s.size : Int) ++ bytesOf s ++ q).length : Int) - ((p.length : Int) + (enc (s.size : Int)).length)) := by omega
    have a6 : (0 : Int) ≤ (p.length : Int) + (enc (s.size : Int)).length := by omega
    have a7 : (p.length : Int) + (enc (s.size : Int)).length ≤ (p.length : Int) + (enc (s.size : Int)).length + (s.size : Int) := by omega
    have a8 : (p.length : Int) + (enc (s.size : Int)).length + (s.size : Int) ≤ ((p ++ enc (s.size : Int) ++ bytesOf s ++ q).length : Int) := by omega
    have a3 : wrap64 (((p ++ enc (s.size : Int) ++ bytesOf s ++ q).length : Int) - ((p.length : Int) + (enc (s.size : Int)).length)) = ((p ++ enc (s.size : Int) ++ bytesOf s ++ q).length : Int) - ((p.length : Int) + (enc (s.size : Int)).length) := w64 (by omega)
    have H3 := Lib.hid a3
    clear a3
    have a5 : wrap64 ((p.length : Int) + (enc (s.size : Int)).length + (s.size : Int)) = (p.length : Int) + (enc (s.size : Int)).length + (s.size : Int) := w64 (by omega)
    have H5 := Lib.hid a5
    clear a5
    rw [if_neg a1, if_neg a2, H3.out, if_neg a4, H5.out, if_pos a6, if_pos a7, if_pos a8]
    have e5 : ((p ++ enc (s.size : Int) ++ bytesOf s ++ q).take ((p.length : Int) + (enc (s.size : Int)).length + (s.size : Int)).toNat).drop ((p.length : Int) + (enc (s.size : Int)).length).toNat = bytesOf s := by
      rw [show ((p.length : Int) + (enc (s.size : Int)).length + (s.size : Int)).toNat = (p ++ enc (s.size : Int) ++ bytesOf s).length by omega, List.take_left]
      rw [show ((p.length : Int) + (enc (s.size : Int)).length).toNat = (p ++ enc (s.size : Int)).length by rw [List.length_append]; omega, List.drop_left]
    rw [e5, str_back, lt]
    have : ((p.length : Int) + (enc (s.size : Int)).length + (s.size : Int)) = ((p.length + (enc (s.size : Int)).length + s.size : Nat) : Int) := by omega
    rw [this]
  simp only [plnlaw2_WireBack.j1]
  rw [if_neg (show ¬ (false = true) by decide)]
  simp only [Option.bind_some, List.nil_append, List.length_nil]
  have b1 : 0 + (p ++ enc n).length < 140737488355328 := by omega
  have b2 : (p ++ enc n).length + q.length < 140737488355328 := by omega
  have b3 : 0 + (p ++ enc (s.size : Int) ++ bytesOf s).length < 140737488355328 := by omega
  have b4 : (p ++ enc (s.size : Int) ++ bytesOf s).length + q.length < 140737488355328 := by omega
  have b5 : (0 : Int) ≤ (p.length : Int) := by omega
  have b6 : (p.length : Int) ≤ ((p ++ enc n).length : Int) := by omega
  rw [if_pos b1, if_pos b2, g1]
  simp only [Option.bind_some]
  rw [if_pos b3, if_pos b4, gt]
  simp only [Option.bind_some, if_true]
  rw [if_pos b5, if_pos b6, Int.toNat_natCast, List.take_left]
  simp
theorem WireBack : plnlaw2_WireBack.Pure := by
  intro n s p q hn hs _ hp hpb _ hq hqb
  have hP := bytes_of hpb
  have hQ := bytes_of hqb
  have hn := r64 hn
  obtain ⟨m, hm⟩ : ∃ m : Nat, 100 ≤ m := ⟨100, Nat.le_refl _⟩
  refine ⟨m + 1 + 1, ?_⟩
  unfold plnlaw2_WireBack.f
  rw [first_true (m + 1 + 1) (by omega)]
  simp only [Option.bind_some, if_true]
  have j1 : plnlaw2_WireBack.j0 (m + 1 + 1) n s p q true = some true := by
    simp only [plnlaw2_WireBack.j0]
    rw [if_pos trivial, first_true (m + 1) (by omega)]; rfl
  by_cases h4 : (s.size : Int) > 300
  · rw [if_pos h4]; exact j1
  rw [if_neg h4]
  by_cases h5 : (p.length : Int) > 100
  · rw [if_pos h5]; exact j1
  rw [if_neg h5]
  by_cases h6 : (q.length : Int) > 100
  · rw [decide_eq_true h6]; exact j1
  rw [decide_eq_false h6]
  have hsz : R64 (s.size : Int) := ⟨by omega, by omega⟩
  have lb := bytesOf_length s
  have le := enc_len n hn
  have ls := enc_len (s.size : Int) hsz
  have ht := tail_true m hm n s p q hn hP hQ (by omega) (by omega) (by omega)
  have et : (p ++ [7, 7, 7, 7]).take ((p.length : Int) : Int).toNat = p := by rw [Int.toNat_natCast, List.take_left]
  have hl4 : (p ++ [7, 7, 7, 7]).length = p.length + 4 := by simp
  have e4 : (p ++ [7, 7, 7, 7]).take ((p.length : Int) + 4).toNat = p ++ [7, 7, 7, 7] := List.take_of_length_le (by omega)
  have hstr : (strOfNums ((p ++ [7, 7, 7, 7]).take ((p.length : Int) + 4).toNat)).toList = ((strOfNums p) ++ (⟨#[7, 7, 7, 7]⟩ : ByteArray)).toList := by rw [e4]; exact toList_append4 p
  have la : (p ++ enc n).length = p.length + (enc n).length := by rw [List.length_append]
  have lt : (p ++ enc (s.size : Int) ++ bytesOf s).length = p.length + (enc (s.size : Int)).length + s.size := by rw [List.length_append, List.length_append, lb]
  have p1 := put_is p n hn (by omega) (m + 1) (by omega)
  have p2 : wire_PutText.f (m + 1) p s = some (p ++ enc (s.size : Int) ++ bytesOf s) := by
    unfold wire_PutText.f
    rw [put_is p _ hsz (by omega) (m + 1) (by omega)]
    simp only [Option.bind_some]
    rw [if_pos (by rw [List.length_append]; omega)]
  have b1 : ([] : List Int).length + p.length < 140737488355328 := by simp; omega
  have b2 : p.length + [7, 7, 7, (7 : Int)].length < 140737488355328 := by simp; omega
  have b3 : (0 : Int) ≤ (p.length : Int) := by omega
  have b4 : (p.length : Int) ≤ ((p ++ [7, 7, 7, 7]).length : Int) := by omega
  have b5 : (0 : Int) ≤ (p.length : Int) + 4 := by omega
  have b6 : (p.length : Int) + 4 ≤ ((p ++ [7, 7, 7, 7]).length : Int) := by omega
  have b7 : (strOfNums p).size + 4 ≤ 9223372036854775807 := by rw [strOfNums_size]; omega
  have b8 : ¬ ((p ++ enc n).length : Int) ≤ (p.length : Int) := by omega
  have b9 : ¬ ((p ++ enc (s.size : Int) ++ bytesOf s).length : Int) < (p.length : Int) + 1 + (s.size : Int) := by omega
  have w4 : wrap64 ((p.length : Int) + 4) = (p.length : Int) + 4 := w64 (by omega)
  have Hw4 := Lib.hid w4
  clear w4
  have w1 : wrap64 ((p.length : Int) + 1) = (p.length : Int) + 1 := w64 (by omega)
  have Hw1 := Lib.hid w1
  clear w1
  have w2 : wrap64 ((p.length : Int) + 1 + (s.size : Int)) = (p.length : Int) + 1 + (s.size : Int) := w64 (by omega)
  have Hw2 := Lib.hid w2
  clear w2
  simp only [plnlaw2_WireBack.j0]
  rw [if_neg (show ¬ (false = true) by decide)]
  rw [Option.bind_some, if_pos b1, Option.bind_some, Option.bind_some, List.nil_append, if_pos b2, Option.bind_some, if_pos b3, if_pos b4, Option.bind_some, et, p1, Option.bind_some, p2, Option.bind_some]
  rw [Hw4.out, if_pos b5, if_pos b6, if_pos b7, if_pos hstr, if_neg b8, Hw1.out, Hw2.out, decide_eq_false b9]
  exact ht
end Go.Proofs.Ytnibdgjlbhdmfaa.BackPure
