/- The walk of the law NumJoins. -/
import Derived.Test.YtahjpeihekphcaaN9
set_option linter.unusedVariables false
set_option linter.unusedSimpArgs false
namespace Go.Proofs.Ytahjpeihekphcaa.N
open Go.RowKit Go.Proofs.YtahjpeihekphcaaW.PrintWords Go.Proofs.YtahjpeihekphcaaW.PrintLast Go.Proofs.Ytahjpeihekphcaa.Bt Go.Proofs.Ytahjpeihekphcaa.B Go.Proofs.Ytahjpeihekphcaa.Vi

theorem str_append (l : List UInt8) (s : ByteArray) : (str l ++ s).data.toList = l ++ s.data.toList := by
  rw [ByteArray.data_append, Array.toList_append]
  rfl
/-- A text that is put is read to the same. -/
theorem txt_yes {s r : List UInt8} (h : s.length ≤ 4611686018427) : txt s.length (some (vint s.length ++ (s ++ r))) = (s, some r) := by
  have hn : nxt s.length (some (vint s.length ++ (s ++ r))) = (s.length, some (s ++ r)) := nxt_yes (by omega) (Nat.le_refl _)
  unfold txt
  rw [hn]
  simp
set_option maxHeartbeats 1000000 in
theorem numJoins_any (n : Nat) (s more : ByteArray) (w : World) (hn : n < 18446744073709551616) :
    Calls Try.prog 10 #[.int .u64 (n : Int), .string s, .string more] w fun e w' => e = .returned (.bool true) ∧ Below w.heap.size w w' := by
  have Hn := Aside0.mk hn
  clear hn
  by_cases hlen : 1000 < s.size ∨ 1000 < more.size
  · by_cases h1 : 1000 < s.size
    · have c0 : decide (1000 < (s.size : Int)) = true := decide_eq_true (by omega)
      go_enter Try.func10, Try.ntmps10
      go_wp2_with fail
      ((with_reducible refine (alive_any w).mono ?_); rintro e w1 ⟨rfl, hb⟩)
      have HB := Aside0.mk hb
      clear hb
      go_wp2_with fail
      go_ret
      exact ⟨rfl, HB.out⟩
    · have c0 : decide (1000 < (s.size : Int)) = false := decide_eq_false (by omega)
      have c1 : decide (1000 < (more.size : Int)) = true := decide_eq_true (by omega)
      go_enter Try.func10, Try.ntmps10
      go_wp2_with fail
      ((with_reducible refine (alive_any w).mono ?_); rintro e w1 ⟨rfl, hb⟩)
      have HB := Aside0.mk hb
      clear hb
      go_wp2_with fail
      go_ret
      exact ⟨rfl, HB.out⟩
  have c0 : decide (1000 < (s.size : Int)) = false := decide_eq_false (by omega)
  have c1 : decide (1000 < (more.size : Int)) = false := decide_eq_false (by omega)
  have Hs : Aside0 (s.size ≤ 1000) := ⟨by omega⟩
  have Hm : Aside0 (more.size ≤ 1000) := ⟨by omega⟩
  clear hlen
  go_enter Try.func10, Try.ntmps10
  go_wp2_with fail
  ((with_reducible refine (alive_any w).mono ?_); rintro e w1 ⟨rfl, hb⟩)
  have HB := Aside0.mk hb
  clear hb
  go_wp2_with fail
  (refine (uint_any w1.heap.size (.slice none 0 0) [] n w1 (Own.nil _ _ _) (Nat.le_refl _) (by simp) Hn.out).mono ?_; rintro e w2 ⟨v2, rfl, hO2, hg2, -⟩)
  have HB2 := Aside0.mk (below_near (A := none) HB.out (below_size HB.out) hg2)
  have HO2 := Aside0.mk hO2
  have hsz := hg2.size
  have Hsz : Aside0 (w1.heap.size ≤ w2.heap.size ∧ w.heap.size ≤ w1.heap.size) := ⟨hsz, below_size HB.out⟩
  have Hvl : Aside0 (([] ++ vint n).length ≤ 10) := ⟨by have := vint_le10 Hn.out; simpa using this⟩
  clear hO2 hg2 hsz HB
  go_wp2_with fail
  (refine (text_any w1.heap.size v2 _ s w2 HO2.out Hsz.out.1 (by have := Hvl.out; omega) (by have := Hs.out; omega)).mono ?_; rintro e w3 ⟨v3, rfl, hO3, hg3, -⟩)
  have hc3 := str_of hO3
  have HB3 := Aside0.mk (own_grown HO2.out HB2.out Hsz.out.2 (by have := Hsz.out; omega) hg3)
  obtain ⟨l, hl⟩ : ∃ l, l = [] ++ vint n ++ (vint s.size ++ s.data.toList) := ⟨_, rfl⟩
  have Hl : Aside0 (l ++ more.data.toList = vint n ++ (vint s.size ++ (s.data.toList ++ more.data.toList))) := ⟨by rw [hl]; simp⟩
  have hsmall : l.length + more.size ≤ 3000 := by
    have h1 := Hvl.out
    have h2 := Hs.out
    have h3 := Hm.out
    have h4 : (vint s.size).length ≤ 10 := vint_le10 (by omega)
    rw [hl]
    simp only [List.length_append] at h1 ⊢
    rw [data_length]
    omega
  have Hsmall := Aside0.mk hsmall
  rw [← hl] at hc3
  have hadd : ¬ 9223372036854775807 < (str l).size + more.size := by rw [str_size]; omega
  clear hO3 hg3 HO2 HB2 Hvl hl hsmall
  go_wp2_with fail
  ((with_reducible refine (from_any (str l ++ more) w3 (by rw [ByteArray.size_append, str_size]; have := Hsmall.out; omega)).mono ?_); rintro e w4 ⟨g, b, rfl, hR, hb, hg, hbb, hbg⟩)
  rw [str_append, Hl.out] at hR
  have HB4 := Aside0.mk (below_step HB3.out hb)
  have HR := Aside0.mk hR
  have Hg := Aside0.mk (And.intro (Nat.le_trans (below_size HB3.out) hg) (Nat.le_trans (below_size HB3.out) hbb))
  have Hbg := Aside0.mk hbg
  clear hb hR hg hbb hbg HB3 Hl Hsmall hadd
  go_wp2_with fail
  ((with_reducible refine (from_any more w4 (by have := Hm.out; omega)).mono ?_); rintro e w5 ⟨g', b', rfl, hR', hb, hg', hbb', hbg'⟩)
  have HB5 := Aside0.mk (below_step HB4.out hb)
  have HR' := Aside0.mk hR'
  have Hg' := Aside0.mk (And.intro (Nat.le_trans (below_size HB4.out) hg') (Nat.le_trans (below_size HB4.out) hbb'))
  have hlt := HR.out.lt
  have Hne := Aside0.mk (show g < g' ∧ g < b' ∧ b < g' by have := Hbg.out; exact ⟨by omega, by omega, by omega⟩)
  have HR5 := Aside0.mk (HR.out.kept (grown_of_below hb none) (by simp) (by simp))
  clear hb hR' hg' hbb' hbg' HB4 HR Hbg hlt
  have Hx1 : Aside0 (nxt n (some (vint n ++ (vint s.size ++ (s.data.toList ++ more.data.toList)))) = (n, some (vint s.size ++ (s.data.toList ++ more.data.toList)))) := ⟨nxt_yes Hn.out (Nat.le_refl _)⟩
  have Hx2 : Aside0 (txt s.size (some (vint s.size ++ (s.data.toList ++ more.data.toList))) = (s.data.toList, some more.data.toList)) := ⟨by
    have h := @txt_yes s.data.toList more.data.toList (by rw [data_length]; have := Hs.out; omega)
    rw [data_length] at h
    exact h⟩
  go_wp2_with fail
  ((refine (ru g b _ n _ Hn.out HR5.out).mono ?_); rintro e w6 ⟨rfl, h6, hg6⟩)
  rw [Hx1.out] at h6 ⊢
  have H6 := Aside0.mk h6
  have HR6 := Aside0.mk (HR'.out.kept hg6 (by have := Hne.out; simp; omega) (by have := Hne.out; simp; omega))
  have HB6 := Aside0.mk (HB5.out.grown hg6 (below_size HB5.out) (by intro k hk; cases hk; exact Hg.out.1))
  clear h6 hg6 HR5 HR' HB5 Hx1
  go_wp2_with fail
  ((refine (rt g b _ (s.size : Int) s.size _ (by omega) (by have := Hs.out; omega) H6.out).mono ?_); rintro e w7 ⟨rfl, h7, hg7⟩)
  rw [Hx2.out] at h7 ⊢
  rw [str_data]
  have H7 := Aside0.mk h7
  have HR7 := Aside0.mk (HR6.out.kept hg7 (by have := Hne.out; simp; omega) (by have := Hne.out; simp; omega))
  have HB7 := Aside0.mk (HB6.out.grown hg7 (below_size HB6.out) (by intro k hk; cases hk; exact Hg.out.1))
  clear h7 hg7 H6 HR6 HB6 Hx2
  go_wp2_with fail
  ((refine (rbad g b _ _ H7.out).mono ?_); rintro e w8 ⟨rfl, rfl⟩)
  go_wp2_with fail
  ((refine (rend g b _ _ H7.out).mono ?_); rintro e w8 ⟨rfl, rfl⟩)
  go_wp2_with fail
  ((refine (rend g' b' _ _ HR7.out).mono ?_); rintro e w8 ⟨rfl, rfl⟩)
  go_wp2_with fail
  ((refine (ri g b _ _ H7.out).mono ?_); rintro e w8 ⟨rfl, h8, hg8⟩)
  have H8 := Aside0.mk h8
  have HR8 := Aside0.mk (HR7.out.kept hg8 (by have := Hne.out; simp; omega) (by have := Hne.out; simp; omega))
  have HB8 := Aside0.mk (HB7.out.grown hg8 (below_size HB7.out) (by intro k hk; cases hk; exact Hg.out.1))
  clear h8 hg8 H7 HR7 HB7
  go_wp2_with fail
  ((refine (ri g' b' _ _ HR8.out).mono ?_); rintro e w9 ⟨rfl, h9, hg9⟩)
  have H9 := Aside0.mk (H8.out.kept hg9 (by have := Hne.out; simp; omega) (by have := Hne.out; simp; omega))
  have HR9 := Aside0.mk h9
  have HB9 := Aside0.mk (HB8.out.grown hg9 (below_size HB8.out) (by intro k hk; cases hk; exact Hg'.out.1))
  clear h9 hg9 H8 HR8 HB8
  go_wp2_with fail
  ((refine (rbad g b _ _ H9.out).mono ?_); rintro e w10 ⟨rfl, rfl⟩)
  go_wp2_with fail
  ((refine (rbad g' b' _ _ HR9.out).mono ?_); rintro e w10 ⟨rfl, rfl⟩)
  go_wp2_with fail
  go_ret
  exact ⟨by simp, HB9.out⟩
theorem numJoins_walk (a0 : Int) (a1 a2 : ByteArray) (w : World) (w0 : (Lit.int .u64 a0).wf = true) (w1 : a1.size ≤ 140737488351232) (w2 : a2.size ≤ 140737488351232) :
    Calls Try.prog 10 #[.int .u64 a0, .string a1, .string a2] w fun e w' => e = .returned (.bool true) ∧ Below w.heap.size w w' := by
  obtain ⟨n, rfl, hn⟩ := nat_of_u64 w0
  exact numJoins_any n a1 a2 w hn
end Go.Proofs.Ytahjpeihekphcaa.N
