/- The walk of the law NumBack. -/
import Derived.Test.YtahjpeihekphcaaN15
import Derived.Test.YtahjpeihekphcaaOpen
set_option linter.unusedVariables false
set_option linter.unusedSimpArgs false
namespace Go.Proofs.Ytahjpeihekphcaa.N
open Go.RowKit Go.Proofs.YtahjpeihekphcaaW.PrintWords Go.Proofs.YtahjpeihekphcaaW.PrintLast Go.Proofs.Ytahjpeihekphcaa.Bt Go.Proofs.Ytahjpeihekphcaa.B Go.Proofs.Ytahjpeihekphcaa.Vi Go.Proofs.Ytahjpeihekphcaa.Reg

/-- An item that lies at a place. -/
def ItAt (w : World) (a : Addr) (x : It) : Prop := w.cell? a = some (.int .i64 x.kind) ∧ w.cell? ⟨a.block, a.off + 1, none⟩ = some (.int .u64 (x.n : Int)) ∧ w.cell? ⟨a.block, a.off + 2, none⟩ = some (.string x.s)
theorem Reads.grown {w w' : World} {A : Option Addr} {l : List UInt8} {g : Nat} (h : Reads w A l) (hg : w.grownBy w' (some g)) (hne : ∀ ad, A = some ad → ad.block ≠ g) : Reads w' A l :=
  ⟨h.1, fun ad e j hj => hg.cell (h.2 ad e j hj) (by
    have := hne ad e
    have hb : (ad.add j).block = ad.block := by unfold Addr.add; split <;> rfl
    rw [hb]
    simpa using this)⟩
theorem some_of {A : Option Addr} {xs : List It} {i : Nat} (h : A = none → xs = []) (hi : i < xs.length) : ∃ a, A = some a := by
  cases A with
  | none => rw [h rfl] at hi; simp at hi
  | some a => exact ⟨a, rfl⟩
theorem ItAt.below {w w' : World} {a : Addr} {x : It} (h : ItAt w a x) (hb : Below w.heap.size w w') : ItAt w' a x := ⟨pw_cell_below hb h.1, pw_cell_below hb h.2.1, pw_cell_below hb h.2.2⟩
theorem flat_le (xs : List It) (k : Nat) (h : ∀ x ∈ xs, x.bytes.length ≤ k) : (xs.flatMap It.bytes).length ≤ xs.length * k := by
  induction xs with
  | nil => simp
  | cons x xs ih =>
    have h1 := h x (List.mem_cons_self ..)
    have h2 := ih (fun y hy => h y (List.mem_cons_of_mem _ hy))
    rw [List.flatMap_cons, List.length_append, List.length_cons, Nat.add_mul]
    omega
set_option maxHeartbeats 4000000 in
theorem numBack_any (A0 : Option Addr) (cap : Nat) (xs : List It) (cut : Int) (w : World) (h0 : -9223372036854775808 ≤ cut) (h1 : cut ≤ 9223372036854775807) (hlc : xs.length ≤ cap) (hcm : cap ≤ maxLen)
    (hnil : A0 = none → xs = []) (hI : ∀ a, A0 = some a → ∀ i (h : i < xs.length), ItAt w (a.add (i * 3)) xs[i]) (hx : ∀ x ∈ xs, x.n < 18446744073709551616) :
    Calls Try.prog 11 #[.slice A0 xs.length cap, .int .i64 cut] w fun e w' => e = .returned (.bool true) ∧ Below w.heap.size w w' := by
  have HI := Aside0.mk hI
  have Hnil := Aside0.mk hnil
  have HX := Aside0.mk hx
  have HC := Aside0.mk (And.intro hlc hcm)
  have HT := Aside0.mk (And.intro h0 h1)
  by_cases hlen : 60 < xs.length
  · have c0 : decide (60 < (xs.length : Int)) = true := decide_eq_true (by omega)
    clear hI hx hnil
    go_enter Try.func11, Try.ntmps11
    go_wp2_with fail
    ((with_reducible refine (alive_any w).mono ?_); rintro e w1 ⟨rfl, hb⟩)
    have HB := Aside0.mk hb
    clear hb
    go_wp2_with fail
    go_ret
    exact ⟨rfl, HB.out⟩
  have c0 : decide (60 < (xs.length : Int)) = false := decide_eq_false (by omega)
  have Hlen : Aside0 (xs.length ≤ 60) := ⟨by omega⟩
  clear hI hx hlc hcm h0 h1 hlen hnil
  go_enter Try.func11, Try.ntmps11
  go_wp2_with fail
  ((with_reducible refine (alive_any w).mono ?_); rintro e w1 ⟨rfl, hb⟩)
  have HB := Aside0.mk hb
  clear hb
  go_wp2_with fail
  go_loopw [5, 21] (fun t5 t21 wr => ∃ (i : Nat), i ≤ xs.length ∧ t21 = .int .i64 (i : Int) ∧ Aside0 (Own wr w.heap.size 5 t5 (cs ((xs.take i).flatMap It.bytes))) ∧ Aside0 (∀ x ∈ xs.take i, x.s.size ≤ 100) ∧ Aside0 (Below w.heap.size w wr)) (fun _ t21 _ => xs.length - (intOf t21).toNat)
  case atStart => exact ⟨0, Nat.zero_le _, rfl, ⟨Own.nil _ _ _⟩, ⟨by simp⟩, HB⟩
  case round =>
    clear HB
    obtain ⟨i, hi, rfl, HO, HS, HB⟩ := hrel
    have hl60 := Hlen.out
    by_cases hlt : i < xs.length
    · obtain ⟨a, rfl⟩ := some_of Hnil.out hlt
      have hcell := (HI.out a rfl i hlt).below HB.out
      obtain ⟨x, hxe⟩ : ∃ x, x = xs[i] := ⟨_, rfl⟩
      rw [← hxe] at hcell
      obtain ⟨k1, k2, k3⟩ := hcell
      have Hxe := Aside0.mk hxe
      clear hxe
      by_cases hs : 100 < x.s.size
      · have d1 : decide (100 < (x.s.size : Int)) = true := decide_eq_true (by omega)
        have HB2 := Aside0.mk (below_alloc HB.out (.cells #[.int .i64 x.kind, .int .u64 (x.n : Int), .string x.s] 60))
        clear hs
        go_wp2_with fail
        go_ret
        exact ⟨rfl, HB2.out⟩
      have d1 : decide (100 < (x.s.size : Int)) = false := decide_eq_false (by omega)
      have Hs : Aside0 (x.s.size ≤ 100) := ⟨by omega⟩
      have Hn : Aside0 (x.n < 18446744073709551616) := ⟨HX.out x (by rw [Hxe.out]; exact List.getElem_mem hlt)⟩
      have Hpre : Aside0 (((xs.take i).flatMap It.bytes).length ≤ 4611686018427) := ⟨by
        have h := flat_le (xs.take i) 110 (fun y hy => bytes_le y (HX.out y (List.mem_of_mem_take hy)) (HS.out y hy))
        have := Hlen.out
        rw [List.length_take] at h
        have : min i xs.length * 110 ≤ 60 * 110 := Nat.mul_le_mul_right _ (by omega)
        omega⟩
      have hnext : xs.take (i + 1) = xs.take i ++ [x] := by rw [Hxe.out]; exact List.take_succ_eq_append_getElem hlt
      have Hnext := Aside0.mk hnext
      have HB2 := Aside0.mk (below_alloc HB.out (.cells #[.int .i64 x.kind, .int .u64 (x.n : Int), .string x.s] 60))
      have HO2 := Aside0.mk (HO.out.alloc (.cells #[.int .i64 x.kind, .int .u64 (x.n : Int), .string x.s] 60))
      clear hs hnext
      go_wp2_with fail
      (refine (put_any w.heap.size u5 _ x _ HO2.out (below_size HB2.out) Hpre.out Hn.out (by have := Hs.out; omega)).mono ?_; rintro e w3 ⟨v3, rfl, hO3, hg3, -⟩)
      have HB3 := Aside0.mk (own_grown HO2.out HB2.out (Nat.le_refl _) (below_size HB2.out) hg3)
      have HO3 := Aside0.mk hO3
      clear hO3 hg3 HO2 HB2 HB HO k1 k2 k3
      go_wp2_with fail
      go_roundw
      case rel =>
        refine ⟨i + 1, by omega, by go_num, ⟨?_⟩, ⟨?_⟩, HB3⟩
        · rw [Hnext.out, List.flatMap_append]
          simpa using HO3.out
        · intro y hy
          rw [Hnext.out] at hy
          rcases List.mem_append.1 hy with hy | hy
          · exact HS.out y hy
          · simp only [List.mem_singleton] at hy
            rw [hy]
            exact Hs.out
      case measure => simp [intOf]; omega
    · obtain rfl : i = xs.length := by omega
      rw [List.take_length] at HO HS
      obtain ⟨B, hB⟩ : ∃ B, B = xs.flatMap It.bytes := ⟨_, rfl⟩
      rw [← hB] at HO
      have HBl : Aside0 (B.length ≤ 6600) := ⟨by
        have h := flat_le xs 110 (fun y hy => bytes_le y (HX.out y hy) (HS.out y hy))
        have := Hlen.out
        have : xs.length * 110 ≤ 60 * 110 := Nat.mul_le_mul_right _ (by omega)
        rw [hB]
        omega⟩
      have HBe := Aside0.mk hB
      have hc := str_of HO.out
      obtain ⟨A, c, rfl, hRd, hlcc, -⟩ := HO.out.reads
      have Hrd := Aside0.mk hRd
      have Hlcc := Aside0.mk hlcc
      clear hB hlt hi hRd hlcc
      go_wp2_with fail
      ((with_reducible refine (from_any (str B) wr (by rw [str_size]; have := HBl.out; omega)).mono ?_); rintro e w2 ⟨g, b, rfl, hR, hb, hg, -, -⟩)
      rw [data_str] at hR
      have HB2 := Aside0.mk (below_step HB.out hb)
      have HR := Aside0.mk hR
      have Hg := Aside0.mk (Nat.le_trans (below_size HB.out) hg)
      have Hne : Aside0 (∀ k, (Value.slice A B.length c).ownBlock = some k → k ≠ g) := ⟨fun k hk => by have := (HO.out.lt k hk).2; omega⟩
      have Hrd2 := Aside0.mk (Hrd.out.below hb)
      have Hsp : Aside0 (∀ ad, A = some ad → ad.spot = none ∧ ad.block < wr.heap.size ∧ w.heap.size ≤ ad.block) := ⟨fun ad h => by
        have hlt := HO.out.lt
        rcases HO.out with ⟨h1, _⟩ | ⟨g1, cap1, cur1, fz1, h1, _⟩
        · injection h1 with h1 h2 h3
          rw [h1] at h
          cases h
        · injection h1 with h1 h2 h3
          rw [h1] at h
          injection h with h
          subst h
          have := hlt g1 (by rw [h1]; rfl)
          exact ⟨rfl, this.2, this.1⟩⟩
      have Hge := Aside0.mk hg
      clear hR hb hg HB HO hc Hrd Hne
      go_wp2_with fail
      go_loopw [38] (fun t38 wq => ∃ (i : Nat), i ≤ xs.length ∧ t38 = .int .i64 (i : Int) ∧ Aside0 (RS wq g b (some ((xs.drop i).flatMap It.bytes))) ∧ Aside0 (Reads wq A B) ∧ Aside0 (Below w.heap.size w wq)) (fun t38 _ => xs.length - (intOf t38).toNat)
      case atStart => exact ⟨0, Nat.zero_le _, rfl, ⟨by rw [List.drop_zero, ← HBe.out]; exact HR.out⟩, Hrd2, HB2⟩
      case round =>
        clear HR Hrd2 HB2
        obtain ⟨i, hi, rfl, HR, Hrd, HB⟩ := hrel
        by_cases hlt : i < xs.length
        · obtain ⟨a, rfl⟩ := some_of Hnil.out hlt
          have hcell := (HI.out a rfl i hlt).below HB.out
          obtain ⟨x, hxe⟩ : ∃ x, x = xs[i] := ⟨_, rfl⟩
          rw [← hxe] at hcell
          obtain ⟨k1, k2, k3⟩ := hcell
          have Hxe := Aside0.mk hxe
          have Hs : Aside0 (x.s.size ≤ 100) := ⟨HS.out x (by rw [hxe]; exact List.getElem_mem hlt)⟩
          have Hn : Aside0 (x.n < 18446744073709551616) := ⟨HX.out x (by rw [hxe]; exact List.getElem_mem hlt)⟩
          have hrd : x.read (some ((xs.drop i).flatMap It.bytes)) = (true, some ((xs.drop (i + 1)).flatMap It.bytes)) := by
            have : xs.drop i = x :: xs.drop (i + 1) := by rw [hxe]; exact List.drop_eq_getElem_cons hlt
            rw [this, List.flatMap_cons]
            exact read_put x _ Hn.out (by have := Hs.out; omega)
          have Hr := Aside0.mk hrd
          obtain ⟨o, ho⟩ : ∃ o, o = (Obj.cells #[.int .i64 x.kind, .int .u64 (x.n : Int), .string x.s] 60) := ⟨_, rfl⟩
          have HB2 := Aside0.mk (below_alloc HB.out o)
          have Hrd2 := Aside0.mk (Hrd.out.below (below_alloc (Below.refl _ wr) o))
          have HR2 := Aside0.mk (HR.out.kept (World.grownBy_alloc wr o none) (by simp) (by simp))
          rw [ho] at HB2 Hrd2 HR2
          have hl60 := Hlen.out
          have Hne : Aside0 (∀ ad, A = some ad → ad.block ≠ g) := ⟨fun ad h => by have := (Hsp.out ad h).2.1; have := Hge.out; omega⟩
          clear hxe hrd ho HB Hrd HR
          go_wp2_with fail
          (refine (back_any g b _ x _ HR2.out Hn.out (by have := Hs.out; omega)).mono ?_; rintro e w3 ⟨rfl, h3, hg3⟩)
          rw [Hr.out] at h3 ⊢
          have HR3 := Aside0.mk h3
          have HB3 := Aside0.mk (HB2.out.grown hg3 (below_size HB2.out) (by intro k hk; cases hk; exact Hg.out))
          have Hrd3 := Aside0.mk (Reads.grown Hrd2.out hg3 Hne.out)
          clear h3 hg3 HR2 HB2 Hrd2 k1 k2 k3
          go_wp2_with fail
          ((refine (rbad g b _ _ HR3.out).mono ?_); rintro e w4 ⟨rfl, rfl⟩)
          go_wp2_with fail
          go_roundw
          case rel => exact ⟨i + 1, by omega, by go_num, HR3, Hrd3, HB3⟩
          case measure => simp [intOf]; omega
        · obtain rfl : i = xs.length := by omega
          rw [List.drop_length, List.flatMap_nil] at HR
          go_wp2_with fail
          ((refine (rend g b _ _ HR.out).mono ?_); rintro e w3 ⟨rfl, rfl⟩)
          have htrue : isEnd (some []) = true := rfl
          rw [htrue]
          by_cases hc0 : cut < 0
          · have d1 : decide (cut < 0) = true := decide_eq_true hc0
            go_wp2_with fail
            go_ret
            exact ⟨rfl, HB.out⟩
          have d1 : decide (cut < 0) = false := decide_eq_false hc0
          obtain ⟨k, rfl⟩ := Int.eq_ofNat_of_zero_le (show 0 ≤ cut by omega)
          by_cases hcB : B.length ≤ k
          · have d2 : decide (B.length ≤ k) = true := decide_eq_true hcB
            have d3 : decide ((B.length : Int) ≤ (k : Int)) = true := decide_eq_true (by omega)
            go_wp2_with fail
            go_ret
            exact ⟨rfl, HB.out⟩
          have d2 : decide (B.length ≤ k) = false := decide_eq_false hcB
          have d3 : decide ((B.length : Int) ≤ (k : Int)) = false := decide_eq_false (by omega)
          have hA : A ≠ none := fun h => by
            have := Hrd.out.1 h
            rw [this] at hcB
            simp at hcB
          obtain ⟨ad, rfl⟩ : ∃ ad, A = some ad := by cases A with
            | none => exact absurd rfl hA
            | some ad => exact ⟨ad, rfl⟩
          obtain ⟨bl, off, sp⟩ := ad
          obtain rfl : sp = none := (Hsp.out _ rfl).1
          have hkc : k ≤ c := by have := Hlcc.out; omega
          have hkB : (B.take k).length = k := by rw [List.length_take]; omega
          have hcv : (convert 27 9 (.slice (some ⟨bl, off, none⟩) k c)).run Try.prog wr = .ok (.string (str (B.take k))) wr := by
            have h := run_str_reads (P := Try.prog) (src := 27) (dst := 9) (c := c) Try.underlying27 Try.underlying5 Try.underlying9 (Hrd.out.take k) (fun ad e => by cases e; rfl)
            rw [hkB] at h
            exact h
          have Hcut : Aside0 (readAll xs (some (B.take k)) = none) := ⟨readAll_cut xs (B.take k) (B.drop k) (fun x hx => by have := HS.out x hx; omega) (by
            intro h
            have := congrArg List.length h
            rw [List.length_drop, List.length_nil] at this
            omega) (by rw [List.take_append_drop, HBe.out])⟩
          have hkb : k ≤ 6600 := by have := HBl.out; omega
          clear HR hkB hcB
          go_wp2_with fail
          ((with_reducible refine (from_any (str (B.take k)) wr (by rw [str_size, List.length_take]; omega)).mono ?_); rintro e w3 ⟨q, r, rfl, hR, hb, hg, -, -⟩)
          rw [data_str] at hR
          have HB3 := Aside0.mk (below_step HB.out hb)
          have HR := Aside0.mk hR
          have Hg3 := Aside0.mk (Nat.le_trans (below_size HB.out) hg)
          clear hR hb hg HB hcv Hrd hkb hkc hA
          go_wp2_with fail
          go_loopw [69] (fun t69 wq => ∃ (i : Nat), i ≤ xs.length ∧ t69 = .int .i64 (i : Int) ∧ Aside0 (RS wq q r (readAll (xs.take i) (some (B.take k)))) ∧ Aside0 (Below w.heap.size w wq)) (fun t69 _ => xs.length - (intOf t69).toNat)
          case atStart => exact ⟨0, Nat.zero_le _, rfl, ⟨by rw [List.take_zero]; exact HR.out⟩, HB3⟩
          case round =>
            clear HR HB3
            obtain ⟨i, hi, rfl, HR, HB⟩ := hrel
            by_cases hlt : i < xs.length
            · obtain ⟨a, rfl⟩ := some_of Hnil.out hlt
              have hcell := (HI.out a rfl i hlt).below HB.out
              obtain ⟨x, hxe⟩ : ∃ x, x = xs[i] := ⟨_, rfl⟩
              rw [← hxe] at hcell
              obtain ⟨k1, k2, k3⟩ := hcell
              have Hs : Aside0 (x.s.size ≤ 100) := ⟨HS.out x (by rw [hxe]; exact List.getElem_mem hlt)⟩
              have Hn : Aside0 (x.n < 18446744073709551616) := ⟨HX.out x (by rw [hxe]; exact List.getElem_mem hlt)⟩
              have hnx : (x.read (readAll (xs.take i) (some (B.take k)))).2 = readAll (xs.take (i + 1)) (some (B.take k)) := by
                have : xs.take (i + 1) = xs.take i ++ [x] := by rw [hxe]; exact List.take_succ_eq_append_getElem hlt
                rw [this]
                unfold readAll
                rw [List.foldl_append]
                rfl
              have Hnx := Aside0.mk hnx
              obtain ⟨o, ho⟩ : ∃ o, o = (Obj.cells #[.int .i64 x.kind, .int .u64 (x.n : Int), .string x.s] 60) := ⟨_, rfl⟩
              have HB2 := Aside0.mk (below_alloc HB.out o)
              have HR2 := Aside0.mk (HR.out.kept (World.grownBy_alloc wr o none) (by simp) (by simp))
              rw [ho] at HB2 HR2
              have hl60 := Hlen.out
              clear hxe hnx ho HB HR
              go_wp2_with fail
              (refine (back_any q r _ x _ HR2.out Hn.out (by have := Hs.out; omega)).mono ?_; rintro e w3 ⟨rfl, h3, hg3⟩)
              rw [Hnx.out] at h3
              have HR3 := Aside0.mk h3
              have HB3 := Aside0.mk (HB2.out.grown hg3 (below_size HB2.out) (by intro k hk; cases hk; exact Hg3.out))
              clear h3 hg3 HR2 HB2 k1 k2 k3
              go_wp2_with fail
              go_roundw
              case rel => exact ⟨i + 1, by omega, by go_num, HR3, HB3⟩
              case measure => simp [intOf]; omega
            · obtain rfl : i = xs.length := by omega
              rw [List.take_length, Hcut.out] at HR
              go_wp2_with fail
              ((refine (rbad q r _ _ HR.out).mono ?_); rintro e w4 ⟨rfl, rfl⟩)
              go_wp2_with fail
              go_ret
              exact ⟨rfl, HB.out⟩
instance : Inhabited It := ⟨⟨0, 0, ByteArray.empty⟩⟩
section
variable {H : Type} {enc : TypeId × Value → H} {w : World} {base : Nat} {spare : Nat → Bool} {held : Bool}
/-- A slice of items, opened. -/
theorem open_items {fuel : Nat} {cs : List Value} {x : DataW H × List MemPlace} (h : DataW.trod enc Try.prog w base spare held fuel 58 cs = some x) :
    ∃ (A : Option Addr) (cap : Nat) (xs : List It), cs = [.slice A xs.length cap] ∧ xs.length ≤ cap ∧ cap ≤ maxLen ∧ (A = none → xs = []) ∧ (∀ a, A = some a → ∀ i (hi : i < xs.length), ItAt w (a.add (i * 3)) xs[i]) ∧ ∀ x ∈ xs, x.n < 18446744073709551616 := by
  obtain ⟨A, len, cap, rfl, hl, hm, hnil, hel⟩ := Op.open_rows Try.underlying58 Try.underlying60 (by kernel_rfl) (by kernel_rfl) h
  cases A with
  | none =>
    obtain rfl := hnil rfl
    exact ⟨none, cap, [], rfl, Nat.zero_le _, hm, fun _ => rfl, fun a h => (by cases h), by simp⟩
  | some a =>
    obtain ⟨xs, rfl, hxs⟩ := Op.list_of (α := It) (n := len) (p := fun i x => ItAt w (a.add (i * 3)) x ∧ x.n < 18446744073709551616) (fun i hi => by
      obtain ⟨v0, n0, y0, c0, t0⟩ := hel a rfl i hi 0 _ rfl
      obtain ⟨v1, n1, y1, c1, t1⟩ := hel a rfl i hi 1 _ rfl
      obtain ⟨v2, n2, y2, c2, t2⟩ := hel a rfl i hi 2 _ rfl
      obtain ⟨z0, e0, -, -⟩ := Go.DataW.trod_int Try.underlying3 t0
      obtain ⟨z1, e1, -, w1⟩ := Go.DataW.trod_int Try.underlying34 t1
      obtain ⟨z2, e2, -, -⟩ := Go.DataW.trod_string Try.underlying9 t2
      injection e0 with e0
      injection e1 with e1
      injection e2 with e2
      subst e0 e1 e2
      obtain ⟨m, rfl, hm⟩ := nat_of_u64 w1
      exact ⟨⟨z0, m, z2⟩, ⟨c0, c1, c2⟩, hm⟩)
    refine ⟨some a, cap, xs, rfl, hl, hm, fun h => (by cases h), fun a' h i hi => ?_, fun x hx => ?_⟩
    · cases h
      exact (hxs i hi).1
    · obtain ⟨i, hi, rfl⟩ := List.mem_iff_getElem.1 hx
      exact (hxs i hi).2
end
theorem numBack_walk (A : Option Addr) (cap : Nat) (xs : List It) (a1 : Int) (w : World) (w0 : xs.length ≤ cap ∧ cap ≤ maxLen ∧ (A = none → xs = []) ∧ (∀ a, A = some a → ∀ i (hi : i < xs.length), ItAt w (a.add (i * 3)) xs[i]) ∧ ∀ x ∈ xs, x.n < 18446744073709551616) (w1 : (Lit.int .i64 a1).wf = true) :
    Calls Try.prog 11 #[.slice A xs.length cap, .int .i64 a1] w fun e w' => e = .returned (.bool true) ∧ Below w.heap.size w w' :=
  numBack_any A cap xs a1 w (int_of_i64 w1).1 (int_of_i64 w1).2 w0.1 w0.2.1 w0.2.2.1 w0.2.2.2.1 w0.2.2.2.2
end Go.Proofs.Ytahjpeihekphcaa.N
