/- The reference's Has and Is: what they compute. -/
import Derived.Test.YtfejjfbhlmjkeaaDoorP4
set_option linter.unusedVariables false
set_option linter.unusedSimpArgs false
namespace Go.Proofs.YtfejjfbhlmjkeaaDoor.W
open Go.RowKit Go.Proofs.YtfejjfbhlmjkeaaDoorW.PrintWords Go.Proofs.YtfejjfbhlmjkeaaDoorW.PrintLast Go.Proofs.YtfejjfbhlmjkeaaDoor.B

theorem refWordsS (s : ByteArray) (w : World) (hs : s.size ≤ 1100) (hD : Dec w) : Calls Tryd.prog 13 #[.string s] w fun e w' => ∃ A c, e = .returned (.slice A (words s).length c) ∧ Aside0 (ReadsS w' (.slice A (words s).length c) (words s)) ∧ Below w.heap.size w w' := by
  refine (refWords_any s w hs hD).mono ?_
  rintro e w' ⟨v, rfl, ho, hb⟩
  have hr := readsS_own (xs := words s) ho
  obtain ⟨A, c, rfl, h⟩ := hr
  exact ⟨A, c, rfl, ⟨A, c, rfl, h⟩, hb⟩
set_option maxRecDepth 20000 in
set_option maxHeartbeats 4000000 in
theorem refHas_any (s x0 : ByteArray) (w : World) (hs : s.size ≤ 1100) (hD : Dec w) : Calls Tryd.prog 20 #[.string s, .string x0] w fun e w' => e = .returned (.bool (hasB s x0)) ∧ Below w.heap.size w w' := by
  have HW := Aside0.mk (refWordsS s w hs hD)
  have hc := words_count s
  obtain ⟨ws, hws⟩ : ∃ ws, ws = words s := ⟨_, rfl⟩
  have Hh : Aside0 (hasB s x0 = ws.any fun y => y.toList == x0.toList) := ⟨by rw [hws]; rfl⟩
  have Hlen : Aside0 (ws.length ≤ 1100) := ⟨by rw [hws]; omega⟩
  rw [← hws] at HW
  clear hws hc hs hD
  go_enter Tryd.func20, Tryd.ntmps20
  go_wp2_with (go_at_call 13; refine HW.out.mono ?_; rintro e w1 ⟨A, c, rfl, HR1, hb1⟩; have HB1 := Aside0.mk hb1; clear hb1)
  clear HW
  go_loopw [10] (fun t10 wr => ∃ (i : Nat), i ≤ ws.length ∧ t10 = .int .i64 (i : Int) ∧ Aside0 (x0 ∉ ws.take i) ∧ Aside0 (ReadsS wr (.slice A ws.length c) ws) ∧ Aside0 (Below w.heap.size w wr)) (fun t10 _ => ws.length - (intOf t10).toNat)
  case atStart => exact ⟨0, Nat.zero_le _, rfl, ⟨by simp⟩, HR1, HB1⟩
  case round =>
    clear HR1 HB1
    obtain ⟨i, hi, rfl, HN, HR, HB⟩ := hrel
    by_cases hlt : i < ws.length
    · obtain ⟨x, hx⟩ : ∃ x, x = ws[i] := ⟨_, rfl⟩
      obtain ⟨A1, c1, he, h2, h3, h4⟩ := HR.out
      obtain ⟨ad, rfl, hc⟩ := h4 (by omega)
      obtain rfl : A = some ad := by simp only [Value.slice.injEq] at he; exact he.1
      have hcell : wr.cell? (ad.add i) = some (.string x) := by
        rw [hc i hlt, hx, List.getD_eq_getElem?_getD, List.getElem?_eq_getElem hlt]; rfl
      have hl11 := Hlen.out
      have d : decide ((i : Int) < (ws.length : Int)) = true := decide_eq_true (by omega)
      have Hx := Aside0.mk hx
      clear he h2 h3 h4 hc hx
      cases hxe : (x.toList == x0.toList) with
      | true =>
        have Hret : Aside0 (hasB s x0 = true) := ⟨by rw [Hh.out, ← (text_iff _ _).1 hxe, Hx.out]; exact any_true (List.getElem_mem hlt)⟩
        go_wp2_with fail
        go_ret
        exact ⟨by rw [Hret.out]; rfl, HB.out⟩
      | false =>
        have Hne := Aside0.mk (text_not hxe)
        go_wp2_with fail
        go_roundw
        case rel => exact ⟨i + 1, by omega, by simp, ⟨by
          rw [List.take_succ_eq_append_getElem hlt]
          intro hm
          exact (List.mem_append.1 hm).elim HN.out (fun hm => Hne.out (by rw [Hx.out]; exact (List.mem_singleton.1 hm).symm))⟩, HR, HB⟩
        case measure => simp [intOf]; omega
    · have d : decide ((i : Int) < (ws.length : Int)) = false := decide_eq_false (by omega)
      have Hret : Aside0 (hasB s x0 = false) := ⟨by rw [Hh.out]; have h := HN.out; rw [List.take_of_length_le (by omega)] at h; exact any_false h⟩
      go_wp2_with fail
      go_ret
      exact ⟨by rw [Hret.out]; rfl, HB.out⟩
set_option maxRecDepth 20000 in
set_option maxHeartbeats 4000000 in
theorem refIs_any (s : ByteArray) (w : World) (hs : s.size ≤ 1100) (hD : Dec w) : Calls Tryd.prog 22 #[.string s] w fun e w' => e = .returned (.bool (isWord s)) ∧ Below w.heap.size w w' := by
  have HW := Aside0.mk (refWordsS s w hs hD)
  obtain ⟨ws, hws⟩ : ∃ ws, ws = words s := ⟨_, rfl⟩
  have Hh : Aside0 (isWord s = oneB ws s) := ⟨by rw [hws]; exact is_one s⟩
  rw [← hws] at HW
  clear hws hs hD
  go_enter Tryd.func22, Tryd.ntmps22
  cases ws with
  | nil =>
    go_wp2_with (go_at_call 13; refine HW.out.mono ?_; rintro e w1 ⟨A, c, rfl, HR1, hb1⟩; have HB1 := Aside0.mk hb1; clear hb1)
    go_ret
    exact ⟨by rw [Hh.out]; rfl, HB1.out⟩
  | cons x t =>
    cases t with
    | nil =>
      cases hxe : (x.toList == s.toList) with
      | true =>
        have Hret : Aside0 (isWord s = true) := ⟨by rw [Hh.out]; exact hxe⟩
        clear Hh
        go_wp2_with (go_at_call 13; refine HW.out.mono ?_; rintro e w1 ⟨A, c, rfl, HR1, hb1⟩; have HB1 := Aside0.mk hb1; clear hb1; obtain ⟨A1, c1, he, _, _, h4⟩ := HR1.out; obtain ⟨ad, rfl, hc⟩ := h4 (by simp); obtain rfl : A = some ad := (by simp only [Value.slice.injEq] at he; exact he.1); have k0 := hc 0 (by simp); rw [show ad.add 0 = ad from rfl] at k0; have k1 : w1.cell? ad = some (.string x) := k0; clear he h4 hc k0)
        go_ret
        exact ⟨by rw [Hret.out]; rfl, HB1.out⟩
      | false =>
        have Hret : Aside0 (isWord s = false) := ⟨by rw [Hh.out]; exact hxe⟩
        clear Hh
        go_wp2_with (go_at_call 13; refine HW.out.mono ?_; rintro e w1 ⟨A, c, rfl, HR1, hb1⟩; have HB1 := Aside0.mk hb1; clear hb1; obtain ⟨A1, c1, he, _, _, h4⟩ := HR1.out; obtain ⟨ad, rfl, hc⟩ := h4 (by simp); obtain rfl : A = some ad := (by simp only [Value.slice.injEq] at he; exact he.1); have k0 := hc 0 (by simp); rw [show ad.add 0 = ad from rfl] at k0; have k1 : w1.cell? ad = some (.string x) := k0; clear he h4 hc k0)
        go_ret
        exact ⟨by rw [Hret.out]; rfl, HB1.out⟩
    | cons y t =>
      have hl : (((x :: y :: t).length : Int) == 1) = false := by
        rw [beq_eq_false_iff_ne]; simp; omega
      obtain ⟨m, hm⟩ : ∃ m, m = (x :: y :: t).length := ⟨_, rfl⟩
      rw [← hm] at hl HW
      have Hret : Aside0 (isWord s = false) := ⟨by rw [Hh.out]; rfl⟩
      clear Hh hm
      go_wp2_with (go_at_call 13; refine HW.out.mono ?_; rintro e w1 ⟨A, c, rfl, HR1, hb1⟩; have HB1 := Aside0.mk hb1; clear hb1)
      go_ret
      exact ⟨by rw [Hret.out]; rfl, HB1.out⟩
end Go.Proofs.YtfejjfbhlmjkeaaDoor.W
