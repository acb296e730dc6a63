/- It proves, for every two numbers and every text, that a number or a text cut off is none, that a text above most is too long, and that unlike numbers have unlike bytes. No condition. -/
import Derived.Test.YtnibdgjlbhdmfaaCutLaw
import Derived.Test.YtnibdgjlbhdmfaaWireAid
import Derived.Lib.Strings
namespace Go.Proofs.Ytnibdgjlbhdmfaa.CutPure
open Go.RowKit Go.Proofs.Ytnibdgjlbhdmfaa.MWireTells Go.Proofs.Ytnibdgjlbhdmfaa.MWireCut Go.Proofs.Ytnibdgjlbhdmfaa.WireAid Go.Proofs.YtnibdgjlbhdmfaaW.PrintWords Go.Proofs.YtnibdgjlbhdmfaaW.PrintLast Go.Proofs.YtnibdgjlbhdmfaaW.PrintMore
theorem r64 {a : Int} (h : (Lit.int .i64 a).wf = true) : R64 a := by
  simp [Lit.wf, IntKind.min, IntKind.max, IntKind.signed, IntKind.bits] at h
  exact ⟨by omega, by omega⟩
theorem first_true (k : Nat) (hk : 30 ≤ k) : plnlaw2_first.f k = some true := by
  unfold plnlaw2_first.f
  rw [get_is [17, 1] (by intro x hx; simp at hx; omega) (by decide) 0 k hk, put_is [] 300 ⟨by decide, by decide⟩ (by decide) k hk, put_is [] (-2) ⟨by decide, by decide⟩ (by decide) k hk]
  have e1 : enc 300 = [2, 1, 44] := by
    simp [enc, digs]
  have e2 : enc (-2) = [17, 1] := by
    simp [enc, digs]
  have e3 : WireAid.get [17, 1] 0 = (-2, 2, 0) := by
    have := get_enc [] [] (-2) ⟨by decide, by decide⟩
    rw [e2] at this
    simpa using this
  rw [e1, e2, e3]
  simp only [Option.bind_some, List.nil_append]
  decide +kernel
theorem str_inj {a b : List Int} (ha : Bytes a) (hb : Bytes b) (h : strOfNums a = strOfNums b) : a = b := by
  have h1 : (strOfNums a).data.toList = (strOfNums b).data.toList := by rw [h]
  rw [strOfNums_data, strOfNums_data] at h1
  apply List.ext_getElem?
  intro i
  have h2 := congrArg (fun l : List UInt8 => l[i]?) h1
  simp only [List.getElem?_map] at h2
  cases ea : a[i]? with
  | none => cases eb : b[i]? with
    | none => rfl
    | some y => rw [ea, eb] at h2; simp at h2
  | some x => cases eb : b[i]? with
    | none => rw [ea, eb] at h2; simp at h2
    | some y =>
      rw [ea, eb] at h2
      simp only [Option.map_some, Option.some.injEq] at h2
      have hx := ha x (List.mem_of_getElem? ea)
      have hy := hb y (List.mem_of_getElem? eb)
      have h3 := congrArg UInt8.toNat h2
      rw [UInt8.toNat_ofNat', UInt8.toNat_ofNat'] at h3
      congr 1; omega
theorem toList_inj {s t : ByteArray} (h : s.toList = t.toList) : s = t := by
  rw [Lib.toList_data, Lib.toList_data] at h
  cases s; cases t; simp at h; simp [h]
theorem bytesOf_bytes (s : ByteArray) : Bytes (bytesOf s) := by
  intro x hx
  unfold bytesOf at hx
  obtain ⟨b, _, rfl⟩ := List.mem_map.1 hx
  have := b.toNat_lt
  omega
/-- A number's bytes, the last of them cut off: none stands there. -/
theorem get_cut (n : Int) (hn : R64 n) : WireAid.get ((enc n).take ((enc n).length - 1)) 0 = (0, 0, 1) := by
  obtain ⟨u, s, hs, hu, hl, e, _⟩ := enc_parts n hn
  rw [e]
  have e1 : ((s + ((digs u).length : Int)) :: digs u).length - 1 = (digs u).length := by simp
  rw [e1]
  unfold WireAid.get
  rw [if_neg (by omega)]
  by_cases h0 : (digs u).length = 0
  · rw [h0]; simp
  · obtain ⟨m, hm⟩ : ∃ m, (digs u).length = m + 1 := ⟨(digs u).length - 1, by omega⟩
    have hlen : (((s + ((digs u).length : Int)) :: digs u).take (digs u).length).length = (digs u).length := by simp
    have hr : rd (((s + ((digs u).length : Int)) :: digs u).take (digs u).length) 0 = s + (digs u).length := by
      rw [hm, List.take_succ_cons]; rfl
    rw [if_neg (by omega), hr, hlen]
    have hK : getK (s + (digs u).length) = (digs u).length := by unfold getK; rcases hs with rfl | rfl <;> split <;> omega
    rw [hK, if_pos (by omega)]
theorem WireCut : plnlaw2_WireCut.Pure := by
  intro n m s hn hm hs
  have hn := r64 hn
  have hm := r64 hm
  refine ⟨80, ?_⟩
  unfold plnlaw2_WireCut.f
  rw [first_true 80 (by decide)]
  simp only [Option.bind_some, if_true]
  by_cases h2 : (s.size : Int) > 200
  · rw [if_pos h2]
  have hsz : R64 (s.size : Int) := ⟨by omega, by omega⟩
  have lb := bytesOf_length s
  have le := enc_len n hn
  have ls := enc_len (s.size : Int) hsz
  rw [if_neg h2]
  unfold wire_PutText.f
  rw [put_is [] n hn (by simp) 80 (by decide), put_is [] _ hsz (by simp) 80 (by decide), put_is [] m hm (by simp) 80 (by decide)]
  simp only [Option.bind_some, List.nil_append]
  rw [if_pos (by omega)]
  simp only [Option.bind_some]
  have e1 : (((strOfNums (enc n)).toList == (strOfNums (enc m)).toList) != (n == m)) = false := by
    by_cases h : n = m
    · subst h; simp
    · have : (strOfNums (enc n)).toList ≠ (strOfNums (enc m)).toList := fun hh => h (enc_inj hn hm (str_inj (enc_bytes n hn) (enc_bytes m hm) (toList_inj hh)))
      rw [beq_eq_false_iff_ne.2 this, beq_eq_false_iff_ne.2 h]; rfl
  rw [e1, if_neg (by simp), if_neg (by omega)]
  have e2 : (((enc (s.size : Int) ++ bytesOf s).length : Int) == 0) = false := by
    rw [beq_eq_false_iff_ne, List.length_append]; omega
  rw [e2]
  simp only [plnlaw2_WireCut.j0]
  rw [if_neg (by simp)]
  have hlb : (enc (s.size : Int) ++ bytesOf s).length = (enc (s.size : Int)).length + s.size := by rw [List.length_append, lb]
  have w1 : wrap64 (((enc n).length : Int) - 1) = ((enc n).length : Int) - 1 := w64 (by omega)
  have w2 : wrap64 (((enc (s.size : Int) ++ bytesOf s).length : Int) - 1) = ((enc (s.size : Int) ++ bytesOf s).length : Int) - 1 := w64 (by omega)
  have w3 : wrap64 ((s.size : Int) - 1) = (s.size : Int) - 1 := w64 (by omega)
  have t1 : (((enc n).length : Int) - 1).toNat = (enc n).length - 1 := by omega
  have t2 : (((enc (s.size : Int) ++ bytesOf s).length : Int) - 1).toNat = (enc (s.size : Int) ++ bytesOf s).length - 1 := by omega
  rw [w1, w2, w3, if_pos (by omega), if_pos (by omega), t1, t2, get_is _ ((enc_bytes n hn).take _) (by simp; omega) 0 79 (by decide), get_cut n hn]
  simp only [Option.bind_some]
  rw [if_pos (by omega), if_pos (by omega)]
  have hB : Bytes (enc (s.size : Int) ++ bytesOf s) := (enc_bytes _ hsz).append (bytesOf_bytes s)
  -- the text itself, asked for with one less
  have g3 : wire_GetText.f 79 (enc (s.size : Int) ++ bytesOf s) 0 ((s.size : Int) - 1) = some (⟨#[]⟩, 0, 2) := by
    unfold wire_GetText.f
    have hg := get_enc [] (bytesOf s) (s.size : Int) hsz
    simp only [List.nil_append, List.length_nil] at hg
    rw [get_is _ hB (by omega) 0 79 (by decide)]
    have hg' : WireAid.get (enc (s.size : Int) ++ bytesOf s) 0 = ((s.size : Int), ((0 : Nat) : Int) + (enc (s.size : Int)).length, 0) := hg
    rw [hg']
    simp only [Option.bind_some, if_true]
    rw [if_neg (by omega), if_pos (by omega)]
  have g2 : ∃ r, wire_GetText.f 79 ((enc (s.size : Int) ++ bytesOf s).take ((enc (s.size : Int) ++ bytesOf s).length - 1)) 0 (s.size : Int) = some r ∧ r.2.2 = 1 := by
    unfold wire_GetText.f
    rw [get_is _ (hB.take _) (by simp; omega) 0 79 (by decide)]
    by_cases h0 : s.size = 0
    · have : bytesOf s = [] := List.eq_nil_of_length_eq_zero (by omega)
      rw [this, List.append_nil, get_cut _ hsz]
      exact ⟨_, rfl, rfl⟩
    · have e3 : (enc (s.size : Int) ++ bytesOf s).take ((enc (s.size : Int) ++ bytesOf s).length - 1) = enc (s.size : Int) ++ (bytesOf s).take (s.size - 1) := by
        rw [hlb, show (enc (s.size : Int)).length + s.size - 1 = (enc (s.size : Int)).length + (s.size - 1) by omega, List.take_length_add_append]
      rw [e3]
      have hg := get_enc [] ((bytesOf s).take (s.size - 1)) (s.size : Int) hsz
      simp only [List.nil_append, List.length_nil] at hg
      have hg' : WireAid.get (enc (s.size : Int) ++ (bytesOf s).take (s.size - 1)) 0 = ((s.size : Int), ((0 : Nat) : Int) + (enc (s.size : Int)).length, 0) := hg
      have hl3 : (enc (s.size : Int) ++ (bytesOf s).take (s.size - 1)).length = (enc (s.size : Int)).length + (s.size - 1) := by
        rw [List.length_append, List.length_take, lb]; omega
      rw [hg']
      simp only [Option.bind_some, if_true]
      rw [if_neg (by omega), if_neg (by omega), if_pos (by rw [w64 (by omega)]; omega)]
      exact ⟨_, rfl, rfl⟩
  obtain ⟨r, hr, hr1⟩ := g2
  rw [g3, hr]
  simp only [Option.bind_some, if_true, hr1]
  rfl
end Go.Proofs.Ytnibdgjlbhdmfaa.CutPure
