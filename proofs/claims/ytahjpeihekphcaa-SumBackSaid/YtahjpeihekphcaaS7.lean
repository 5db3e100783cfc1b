/- The walk of the law SumBack. -/
import Derived.Test.YtahjpeihekphcaaS6
import Derived.Test.YtahjpeihekphcaaN6
set_option linter.unusedVariables false
set_option linter.unusedSimpArgs false
namespace Go.Proofs.Ytahjpeihekphcaa.S
open Go.RowKit Go.Proofs.YtahjpeihekphcaaW.PrintWords Go.Proofs.YtahjpeihekphcaaW.PrintLast Go.Proofs.Ytahjpeihekphcaa.Bt Go.Proofs.Ytahjpeihekphcaa.B Go.Proofs.Ytahjpeihekphcaa.Crc
open Go.Proofs.Ytahjpeihekphcaa.N (RS from_any ru rbad rend nxt isEnd nxt_no)

theorem nxt_empty (m : Nat) : nxt m (some []) = (0, none) := nxt_no (fun n r h => by
  have h1 := Go.Proofs.Ytahjpeihekphcaa.Vi.vint_pos n
  have h2 := congrArg List.length h
  rw [List.length_append] at h2
  simp at h2
  omega)
/-- A reader of what is sealed. -/
theorem sread_yes (l : List UInt8) (w : World) (hl : l.length ≤ 4611686018427) :
    Calls Try.prog 41 #[.string (str (seal_ l))] w fun e w' => ∃ g b, e = .returned (.pointer (some ⟨g, 0, none⟩)) ∧ RS w' g b (some l) ∧ Below w.heap.size w w' ∧ w.heap.size ≤ g ∧ w.heap.size ≤ b ∧ b < g := by
  have ho := Aside0.mk (fun w => open_yes l w hl)
  have hl' := Aside0.mk hl
  clear hl
  go_enter Try.func41, Try.ntmps41
  go_wp2_with fail
  ((refine (ho.out w).mono ?_); rintro e w1 ⟨rfl, hb⟩)
  have HB := Aside0.mk hb
  clear hb ho
  go_wp2_with fail
  ((with_reducible refine (from_any (str l) w1 (by rw [str_size]; exact hl'.out)).mono ?_); rintro e w2 ⟨g, b, rfl, hR, hb, hg, hbb, hbg⟩)
  rw [data_str] at hR
  have HB2 := Aside0.mk (below_step HB.out hb)
  have HR := Aside0.mk hR
  have Hg := Aside0.mk (And.intro (Nat.le_trans (below_size HB.out) hg) (Nat.le_trans (below_size HB.out) hbb))
  have Hbg := Aside0.mk hbg
  clear hb hR hg hbb hbg HB
  go_wp2_with fail
  go_ret
  exact ⟨g, b, rfl, HR.out, HB2.out, Hg.out.1, Hg.out.2, Hbg.out⟩
/-- A reader of what isn't. -/
theorem sread_no (s : ByteArray) (w : World) (hno : ∀ l, s.data.toList ≠ seal_ l) (hl : s.size ≤ 4611686018427) :
    Calls Try.prog 41 #[.string s] w fun e w' => ∃ g b, e = .returned (.pointer (some ⟨g, 0, none⟩)) ∧ RS w' g b none ∧ Below w.heap.size w w' ∧ w.heap.size ≤ g ∧ w.heap.size ≤ b ∧ b < g := by
  have ho := Aside0.mk (fun w => open_no s w hno hl)
  clear hl hno
  go_enter Try.func41, Try.ntmps41
  go_wp2_with fail
  ((refine (ho.out w).mono ?_); rintro e w1 ⟨rfl, hb⟩)
  have HB := Aside0.mk hb
  clear hb ho
  go_wp2_with fail
  ((with_reducible refine (from_any ⟨#[]⟩ w1 (by decide)).mono ?_); rintro e w2 ⟨g, b, rfl, hR, hb, hg, hbb, hbg⟩)
  have HB2 := Aside0.mk (below_step HB.out hb)
  have HR : Aside0 (RS w2 g b (some [])) := Aside0.mk hR
  have Hg := Aside0.mk (And.intro (Nat.le_trans (below_size HB.out) hg) (Nat.le_trans (below_size HB.out) hbb))
  have Hbg := Aside0.mk hbg
  clear hb hR hg hbb hbg HB
  go_wp2_with fail
  ((refine (ru g b _ 0 _ (by decide) HR.out).mono ?_); rintro e w3 ⟨rfl, h3, hg3⟩)
  rw [nxt_empty] at h3 ⊢
  have H3 := Aside0.mk h3
  have HB3 := Aside0.mk (HB2.out.grown hg3 (below_size HB2.out) (by intro k hk; cases hk; exact Hg.out.1))
  clear h3 hg3 HR HB2
  go_wp2_with fail
  go_ret
  exact ⟨g, b, rfl, H3.out, HB3.out, Hg.out.1, Hg.out.2, Hbg.out⟩
/-- What a reader of a text, and the document's Open, tell. -/
theorem both_read (s : ByteArray) (hs : s.size ≤ 4611686018427) : ∃ (st : Option (List UInt8)) (t : ByteArray),
    (∀ w, Calls Try.prog 41 #[.string s] w fun e w' => ∃ g b, e = .returned (.pointer (some ⟨g, 0, none⟩)) ∧ RS w' g b st ∧ Below w.heap.size w w' ∧ w.heap.size ≤ g ∧ w.heap.size ≤ b ∧ b < g) ∧
    (∀ W, Calls Try.prog 15 #[.string s] W fun e w' => e = .returned (.tuple #[.string t, .bool (!st.isNone)]) ∧ Below W.heap.size W w') := by
  by_cases h : ∃ l, s.data.toList = seal_ l
  · obtain ⟨l, hl⟩ := h
    have hz : l.length ≤ 4611686018427 := by
      have := congrArg List.length hl
      rw [data_length, seal_length] at this
      omega
    obtain rfl : s = str (seal_ l) := by rw [← hl, str_data]
    exact ⟨some l, str l, fun w => sread_yes l w hz, fun W => ref_open_yes l hz W⟩
  · have hno : ∀ l, s.data.toList ≠ seal_ l := fun l e => h ⟨l, e⟩
    exact ⟨none, _, fun W => sread_no s W hno hs, fun W => ref_open_no s W hno hs⟩
set_option maxHeartbeats 1000000 in
theorem sumBack_walk (a0 : ByteArray) (w : World) (w0 : a0.size ≤ 140737488351232) :
    Calls Try.prog 12 #[.string a0] w fun e w' => e = .returned (.bool true) ∧ Below w.heap.size w w' := by
  by_cases hlen : 4096 < a0.size
  · have c0 : decide (4096 < (a0.size : Int)) = true := decide_eq_true (by omega)
    go_enter Try.func12, Try.ntmps12
    go_wp2_with fail
    ((with_reducible refine (alive_any w).mono ?_); rintro e w1 ⟨rfl, hb⟩)
    have HB := Aside0.mk hb
    clear hb
    go_wp2_with fail
    go_ret
    exact ⟨rfl, HB.out⟩
  have c0 : decide (4096 < (a0.size : Int)) = false := decide_eq_false (by omega)
  have hsm : Aside0 (a0.size ≤ 4096) := ⟨by omega⟩
  have kb := fun W => print_bytes (P := Try.prog) 9 27 5 Try.underlying9 Try.underlying27 Try.underlying5 a0 W
  clear hlen w0
  go_enter Try.func12, Try.ntmps12
  go_wp2_with fail
  ((with_reducible refine (alive_any w).mono ?_); rintro e w1 ⟨rfl, hb⟩)
  have HB := Aside0.mk hb
  clear hb
  go_wp2_with fail
  have HO := Aside0.mk (own_conv w1 w.heap.size 5 a0 (by have := hsm.out; simp only [maxLen]; omega) (below_size HB.out))
  have HBc := Aside0.mk (below_step HB.out (conv_below w1 5 a0))
  ((with_reducible refine (seal_any w.heap.size _ _ _ HO.out (below_size HBc.out) (by rw [data_length]; have := hsm.out; omega)).mono ?_); rintro e w2 ⟨v2, rfl, hO2, hg2, -⟩)
  have HB2 := Aside0.mk (own_grown HO.out HBc.out (Nat.le_refl _) (below_size HBc.out) hg2)
  have hc2 := run_str (P := Try.prog) (src := 27) (dst := 9) Try.underlying27 Try.underlying5 Try.underlying9 hO2
  clear hg2 hO2 HO HBc HB kb
  go_wp2_with fail
  ((refine (open_yes a0.data.toList w2 (by rw [data_length]; have := hsm.out; omega)).mono ?_); rintro e w3 ⟨rfl, hb⟩)
  rw [str_data]
  have HB3 := Aside0.mk (below_step HB2.out hb)
  clear hb HB2 hc2
  go_wp2_with fail
  ((refine (sread_yes a0.data.toList w3 (by rw [data_length]; have := hsm.out; omega)).mono ?_); rintro e w4 ⟨g, b, rfl, hR, hb, hg, -, -⟩)
  have HB4 := Aside0.mk (below_step HB3.out hb)
  have HR := Aside0.mk hR
  clear hb hR hg HB3
  obtain ⟨st, t, hq, ho⟩ := both_read a0 (by have := hsm.out; omega)
  have Hq := Aside0.mk hq
  have Ho := Aside0.mk ho
  clear hq ho
  go_wp2_with fail
  ((refine (Hq.out w4).mono ?_); rintro e w5 ⟨g', b', rfl, hR', hb, -, -, -⟩)
  have HB5 := Aside0.mk (below_step HB4.out hb)
  have HR5 := Aside0.mk (HR.out.kept (grown_of_below hb none) (by simp) (by simp))
  have HR' := Aside0.mk hR'
  clear hb hR' HB4 HR Hq
  go_wp2_with fail
  ((refine (Ho.out w5).mono ?_); rintro e w6 ⟨rfl, hb⟩)
  have HB6 := Aside0.mk (below_step HB5.out hb)
  have HR6 := Aside0.mk (HR5.out.kept (grown_of_below hb none) (by simp) (by simp))
  have HR6' := Aside0.mk (HR'.out.kept (grown_of_below hb none) (by simp) (by simp))
  clear hb HB5 HR5 HR' Ho
  go_wp2_with fail
  ((refine (rbad g b _ _ HR6.out).mono ?_); rintro e w7 ⟨rfl, rfl⟩)
  go_wp2_with fail
  ((refine (rend g b _ _ HR6.out).mono ?_); rintro e w7 ⟨rfl, rfl⟩)
  obtain ⟨z, hz⟩ : ∃ z, z = isEnd (some a0.data.toList) := ⟨_, rfl⟩
  have he : a0.toList.isEmpty = z := by
    rw [hz, ByteArray.toList_eq]
    cases a0.data.toList <;> rfl
  rw [← hz]
  clear hz
  go_wp2_with fail
  ((refine (rbad g' b' _ _ HR6'.out).mono ?_); rintro e w7 ⟨rfl, rfl⟩)
  go_wp2_with fail
  go_ret
  exact ⟨by simp, HB6.out⟩
end Go.Proofs.Ytahjpeihekphcaa.S
