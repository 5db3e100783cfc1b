import Derived.Lib.IndexBytes
import Derived.Test.YtpleiklodomgiaaGreatDoorModelPages37
import Derived.Test.YtpleiklodomgiaaGreatDoorModelPages30
import Derived.Test.YtpleiklodomgiaaGreatDoorModelPages31
import Derived.Test.YtpleiklodomgiaaGreatDoorModelPages33
set_option linter.unusedVariables false
set_option linter.unusedSimpArgs false
section
namespace Go.Proofs.YtpleiklodomgiaaGreatDoor.B
end Go.Proofs.YtpleiklodomgiaaGreatDoor.B
namespace Go.Proofs.YtpleiklodomgiaaGreatDoor.C
end Go.Proofs.YtpleiklodomgiaaGreatDoor.C
namespace Go.Proofs.YtpleiklodomgiaaGreatDoor.F
end Go.Proofs.YtpleiklodomgiaaGreatDoor.F
namespace Go.Proofs.YtpleiklodomgiaaGreatDoor.M
end Go.Proofs.YtpleiklodomgiaaGreatDoor.M
namespace Go.Proofs.YtpleiklodomgiaaGreatDoor.PModelIs
end Go.Proofs.YtpleiklodomgiaaGreatDoor.PModelIs
namespace Go.Proofs.YtpleiklodomgiaaGreatDoor.W
end Go.Proofs.YtpleiklodomgiaaGreatDoor.W
namespace Go.Proofs.YtpleiklodomgiaaGreatDoor.Q
open Go.RowKit Go.Shelf Go.Proofs.YtpleiklodomgiaaGreatDoorW.PrintWords Go.Proofs.YtpleiklodomgiaaGreatDoorW.PrintLast Go.Proofs.YtpleiklodomgiaaGreatDoorW.PrintMore Go.Proofs.YtpleiklodomgiaaGreatDoor.B Go.Proofs.YtpleiklodomgiaaGreatDoor.W Go.Proofs.YtpleiklodomgiaaGreatDoor.M Go.Proofs.YtpleiklodomgiaaGreatDoor.F Go.Proofs.YtpleiklodomgiaaGreatDoor.C Go.Proofs.YtpleiklodomgiaaGreatDoor.PModelIs
theorem w64q (n : Int) (h : 0 ≤ n ∧ n ≤ 9223372036854775807) : wrap64 n = n := by unfold wrap64; omega
theorem stands_l (s t : ByteArray) (hs : s.size ≤ 2000) (ht : t.size ≤ 2000) : ∀ (k i : Nat), s.size + 1 - i < k → i ≤ s.size + 1 → Lib.NoOccB s t i → magpieref09_stands.l0 k s t (i : Int) = some (Lib.contains s.data.toList t.data.toList)
 | 0, i, h, _, _ => by omega
 | k + 1, i, h, hi, hno => by
  rw [magpieref09_stands.l0, w64q ((i : Int) + t.size) (by omega)]
  by_cases hle : i + t.size ≤ s.size
  ·rw [if_pos (by omega), if_pos (by omega), if_pos (by omega), Int.toNat_natCast, show ((i : Int) + (t.size : Int)).toNat = i + t.size by omega]
   by_cases he : (s.extract i (i + t.size)).toList = t.toList
   ·rw [if_pos he]
    have hh : Lib.index s.data.toList t.data.toList = (i : Int) := Lib.hit s t i hno hle (by simpa using he)
    unfold Lib.contains
    rw [hh]
    simp
   ·rw [if_neg he, w64q ((i : Int) + 1) (by omega)]
    exact stands_l s t hs ht k (i + 1) (by omega) (by omega) (Lib.miss_piece s t i hno hle (by simpa using he))
  ·rw [if_neg (by omega)]
   by_cases h1 : 1 ≤ t.size
   ·have hh : Lib.index s.data.toList t.data.toList = -1 := Lib.past s t i hno h1 (by omega)
    unfold Lib.contains
    rw [hh]
    rfl
   ·exfalso
    have h0 := hno 0 (by omega)
    have ht0 : t.data.toList = [] := by
     apply List.eq_nil_of_length_eq_zero
     have : t.data.toList.length = t.size := Array.length_toList
     omega
    rw [ht0] at h0
    simp [Lib.occAt] at h0
theorem stands_any (s t : ByteArray) (hs : s.size ≤ 2000) (ht : t.size ≤ 2000) (w : World) : Calls Tryz.prog 43 #[.string s, .string t] w fun e w' => e = .returned (.bool (Lib.contains s.data.toList t.data.toList)) ∧ Below w.heap.size w w' := by
 refine (magpieref09_stands.calls (s.size + 3) s t _ w (stands_l s t hs ht (s.size + 3) 0 (by omega) (by omega) (fun j hj => absurd hj (Nat.not_lt_zero _)))).mono ?_
 rintro e w' ⟨rfl, hd⟩
 exact ⟨rfl, hd.below⟩
def RefAt (line : ByteArray) (W : World) (d : Nat) : Prop := ∀ (T : S35) (A : Option Addr) (c : Nat) (w : World), OkT d T → Below W.heap.size W w → Kd.C k35 w A T.f3.length T.f3 → T.f3.length ≤ c →
 Calls Tryz.prog 32 #[fv T A c, .string line] w fun e w' => e = .returned (.bool (lineV line d T)) ∧ Below w.heap.size w w'
theorem ref_at1 (t1 t2 line : ByteArray) (v3 : Value) (w : World) : Calls Tryz.prog 32 #[.agg #[.int .i64 1, .string t1, .string t2, v3], .string line] w fun e w' => e = .returned (.bool true) ∧ Below w.heap.size w w' := by
 go_enter Tryz.func32, Tryz.ntmps32
 go_wp2
 go_ret
 exact ⟨rfl, below_alloc (Below.refl _ w) _⟩
theorem ref_at3 (t1 t2 line : ByteArray) (A : Option Addr) (n c : Nat) (hl : line.size ≤ 1100) {W : World} (hD : Dec W) (w : World) (hb : Below W.heap.size W w) : Calls Tryz.prog 32 #[.agg #[.int .i64 3, .string t1, .string t2, .slice A n c], .string line] w fun e w' => e = .returned (.bool (hasB line t2)) ∧ Below w.heap.size w w' := by
 have Hh : Aside0 (∀ w', Below w.heap.size w w' → Calls Tryz.prog 42 #[.string line, .string t2] w' fun e w'' => e = .returned (.bool (hasB line t2)) ∧ Below w'.heap.size w' w'') := ⟨fun w' h => refHas_any line t2 w' hl (hD.below (below_step hb h))⟩
 clear hD hb hl
 go_enter Tryz.func32, Tryz.ntmps32
 go_wp2_with (go_at_call 42; with_reducible refine (Hh.out _ (below_alloc (Below.refl _ w) _)).mono ?_; rintro e w1 ⟨rfl, hb1⟩; have HB1 := Aside0.mk hb1; clear hb1)
 go_ret
 exact ⟨rfl, below_step (below_alloc (Below.refl _ w) _) HB1.out⟩
theorem ref_at4 (t1 t2 line : ByteArray) (A : Option Addr) (n c : Nat) (hl : line.size ≤ 2000) (h2 : t2.size ≤ 100) (w : World) : Calls Tryz.prog 32 #[.agg #[.int .i64 4, .string t1, .string t2, .slice A n c], .string line] w fun e w' => e = .returned (.bool (Lib.contains line.data.toList t2.data.toList)) ∧ Below w.heap.size w w' := by
 have Hh : Aside0 (∀ w', Calls Tryz.prog 43 #[.string line, .string t2] w' fun e w'' => e = .returned (.bool (Lib.contains line.data.toList t2.data.toList)) ∧ Below w'.heap.size w' w'') := ⟨fun w' => stands_any line t2 hl (by omega) w'⟩
 clear hl h2
 go_enter Tryz.func32, Tryz.ntmps32
 go_wp2_with (go_at_call 43; with_reducible refine (Hh.out _).mono ?_; rintro e w1 ⟨rfl, hb1⟩; have HB1 := Aside0.mk hb1; clear hb1)
 go_ret
 exact ⟨rfl, below_step (below_alloc (Below.refl _ w) _) HB1.out⟩
theorem ref_at5 (t1 t2 line : ByteArray) (A : Option Addr) (n c : Nat) (hl : line.size ≤ 2000) (h1 : t1.size ≤ 100) (h2 : t2.size ≤ 100) (w : World) : Calls Tryz.prog 32 #[.agg #[.int .i64 5, .string t1, .string t2, .slice A n c], .string line] w fun e w' => e = .returned (.bool (hasP line (t1 ++ ⟨#[61]⟩ ++ t2))) ∧ Below w.heap.size w w' := by
 have Hf : ∀ t, Aside0 (∀ w, Calls Tryz.prog 44 #[.string line, .string t] w fun e w'' => e = .returned (.bool (hasP line t)) ∧ Below w.heap.size w w'') := fun t => ⟨fun w => piece_any line t (by omega) w⟩
 have Hh := Hf (t1 ++ ⟨#[61]⟩ ++ t2)
 clear Hf
 have c1 : (9223372036854775807 < t1.size + 1) = False := by simp; omega
 have c2 : (9223372036854775807 < t1.size + 1 + t2.size) = False := by simp; omega
 clear h1 h2 hl
 go_enter Tryz.func32, Tryz.ntmps32
 go_wp2_with (go_at_call 44; with_reducible refine (Hh.out _).mono ?_; rintro e w1 ⟨rfl, hb1⟩; have HB1 := Aside0.mk hb1; clear hb1)
 go_ret
 exact ⟨rfl, below_step (below_alloc (Below.refl _ w) _) HB1.out⟩
theorem ref_at6 {line : ByteArray} {W : World} {d : Nat} (ih : RefAt line W d) (t1 t2 : ByteArray) (t3 : List S35) (h1 : t3.length = 1) (A : Option Addr) (c : Nat) (w : World) (hb : Below W.heap.size W w) (hk : ∀ k ∈ t3, OkT d k) (hC : Kd.C k35 w A t3.length t3) : Calls Tryz.prog 32 #[.agg #[.int .i64 6, .string t1, .string t2, .slice A t3.length c], .string line] w fun e w' => e = .returned (.bool ((t3.any fun k => !lineV line d k) == ((6 : Int) == 6))) ∧ Below w.heap.size w w' := by
 obtain ⟨x, rfl⟩ : ∃ x, t3 = [x] := by
  match t3, h1 with
  | [x], _ => exact ⟨x, rfl⟩
 have hC1 : ∀ o : Obj, Kd.C k35 (w.alloc o) A 1 [x] := fun o => Kd.C_below hC (below_alloc (Below.refl _ w) o)
 obtain ⟨ad, A3, c3, rfl, -⟩ := at_T35 hC 0 (Int.le_refl _) (by simp)
 have HG := Aside0.mk (fun o => at_T35 (hC1 o) 0 (Int.le_refl _) (by decide))
 have HI := Aside0.mk (fun (A : Option Addr) (c : Nat) (o : Obj) h3 h4 => ih x A c (w.alloc o) (hk x (List.mem_cons_self ..)) (below_step hb (below_alloc (Below.refl _ w) o)) h3 h4)
 have e2 : ((([x] : List S35).any fun k => !lineV line d k) == ((6 : Int) == 6)) = !lineV line d x := by cases h : lineV line d x <;> simp [h]
 rw [e2]
 clear e2 hC hC1 ih hb hk h1
 obtain ⟨ad', A4, c4, e, k0, k1, k2, k3, l3, g3⟩ := HG.out (.cells #[.int .i64 6, .string t1, .string t2, .slice (some ad) 1 c] 35)
 cases e
 have ex : rd_T35 [x] 0 = x := rfl
 rw [ex] at k0 k1 k2 k3 l3 g3
 have HJ := Aside0.mk (HI.out A4 c4 _ g3 l3)
 clear HG HI l3 g3 ex
 unfold fv at HJ
 obtain ⟨q, hq⟩ : ∃ q, q = lineV line d x := ⟨_, rfl⟩
 rw [← hq] at HJ ⊢
 clear hq
 obtain ⟨x0, x1, x2, x3⟩ := x
 dsimp only at k0 k1 k2 k3 HJ
 have e0 : ad.add (0 : Int).toNat = ad := by unfold Addr.add; simp
 rw [show (0 : Int).toNat * 4 = (0 : Int).toNat from rfl, e0] at k0 k1 k2 k3
 clear e0
 have hl1 : ([⟨x0, x1, x2, x3⟩] : List S35).length = 1 := rfl
 rw [hl1]
 clear hl1
 go_enter Tryz.func32, Tryz.ntmps32
 go_wp2_with (go_at_call 32; refine HJ.out.mono ?_; rintro e w' ⟨rfl, hb'⟩; have HB' := Aside0.mk hb'; clear hb')
 go_ret
 exact ⟨rfl, below_step (below_alloc (Below.refl _ w) _) HB'.out⟩
theorem cnt_any (p : S35 → Bool) : ∀ xs : List S35, decide (0 < (xs.filter p).length) = xs.any p
 | [] => rfl
 | x :: xs => by
  cases h : p x with
  | true => rw [List.filter_cons_of_pos h, List.any_cons, h]; simp
  | false => rw [List.filter_cons_of_neg (by rw [h]; decide), List.any_cons, h, Bool.false_or]; exact cnt_any p xs
theorem cnt_all (p : S35 → Bool) (xs : List S35) : (((xs.filter p).length : Int) == (xs.length : Int)) = ((xs.any fun k => !p k) == ((7 : Int) == 6)) := by
 have h7 : ((7 : Int) == 6) = false := rfl
 rw [h7]
 have hle := List.length_filter_le p xs
 have hiff : (xs.filter p).length = xs.length ↔ ∀ x ∈ xs, p x = true := List.length_filter_eq_length_iff
 cases ha : (xs.any fun k => !p k) with
 | true =>
  obtain ⟨x, hx, hp⟩ := List.any_eq_true.1 ha
  have : (xs.filter p).length ≠ xs.length := fun e => by rw [hiff.1 e x hx] at hp; cases hp
  rw [beq_eq_false_iff_ne.2 (by omega)]; rfl
 | false =>
  have hx : ∀ x ∈ xs, p x = true := fun x hx => by
   have := List.any_eq_false.1 ha x hx
   simpa using this
  rw [hiff.2 hx]; simp
theorem take_filter (p : S35 → Bool) (xs : List S35) (i : Nat) (h : i < xs.length) : ((xs.take (i + 1)).filter p).length = ((xs.take i).filter p).length + (if p xs[i] = true then 1 else 0) := by
 rw [List.take_succ_eq_append_getElem h, List.filter_append, List.length_append]
 cases hp : p xs[i] <;> simp [hp]
def endB (t0 : Int) (n m : Nat) : Bool := (t0 == 7 && ((n : Int) == (m : Int))) || (t0 == 8 && decide (0 < n))
theorem end7 (n m : Nat) : endB 7 n m = ((n : Int) == (m : Int)) := by unfold endB; simp
theorem end8 (n m : Nat) : endB 8 n m = decide (0 < n) := by unfold endB; simp
theorem endE (t0 : Int) (n m : Nat) (h7 : t0 ≠ 7) (h8 : t0 ≠ 8) : endB t0 n m = false := by unfold endB; simp [h7, h8]
set_option maxRecDepth 20000 in
set_option maxHeartbeats 4000000 in
theorem ref_loop {line : ByteArray} {W : World} {d : Nat} (ih : RefAt line W d) (t0 : Int) (ht : t0 ≠ 1 ∧ t0 ≠ 3 ∧ t0 ≠ 4 ∧ t0 ≠ 5 ∧ t0 ≠ 6) (t1 t2 : ByteArray) (t3 : List S35) (h3 : t3.length ≤ 100) (A : Option Addr) (c : Nat) (w : World) (hb : Below W.heap.size W w) (hk : ∀ k ∈ t3, OkT d k) (hC : Kd.C k35 w A t3.length t3) : Calls Tryz.prog 32 #[.agg #[.int .i64 t0, .string t1, .string t2, .slice A t3.length c], .string line] w fun e w' => e = .returned (.bool (endB t0 (t3.filter (lineV line d)).length t3.length)) ∧ Below w.heap.size w w' := by
 have d1 : (t0 == 1) = false := beq_eq_false_iff_ne.2 ht.1
 have d3 : (t0 == 3) = false := beq_eq_false_iff_ne.2 ht.2.1
 have d4 : (t0 == 4) = false := beq_eq_false_iff_ne.2 ht.2.2.1
 have d5 : (t0 == 5) = false := beq_eq_false_iff_ne.2 ht.2.2.2.1
 have d6 : (t0 == 6) = false := beq_eq_false_iff_ne.2 ht.2.2.2.2
 have q1 : decide (t0 = 1) = false := decide_eq_false ht.1
 have q3 : decide (t0 = 3) = false := decide_eq_false ht.2.1
 have q4 : decide (t0 = 4) = false := decide_eq_false ht.2.2.1
 have q5 : decide (t0 = 5) = false := decide_eq_false ht.2.2.2.1
 have q6 : decide (t0 = 6) = false := decide_eq_false ht.2.2.2.2
 clear ht
 have HM := Aside0.mk h3
 obtain ⟨W0, hW0⟩ : ∃ W0, W0 = w.alloc (.cells #[.int .i64 t0, .string t1, .string t2, .slice A t3.length c] 35) := ⟨_, rfl⟩
 obtain ⟨bj, hbj⟩ : ∃ b, b = w.heap.size := ⟨_, rfl⟩
 have hb0 : Below w.heap.size w W0 := by rw [hW0]; exact below_alloc (Below.refl _ _) _
 have HX : Aside0 (W0.heap[bj]? = some (.cells #[.int .i64 t0, .string t1, .string t2, .slice A t3.length c] 35 (0, 0))) := ⟨by rw [hW0, hbj]; exact Go.heap_alloc_new _ _⟩
 have HC := Aside0.mk (Kd.C_below hC hb0)
 have HBW := Aside0.mk (below_step hb hb0)
 have HB0 := Aside0.mk hb0
 have HK := Aside0.mk hk
 have HI := Aside0.mk ih
 have HWd := Aside0.mk hW0
 have HJd := Aside0.mk hbj
 clear h3 hW0 hbj hb0 hC hb hk ih
 go_enter Tryz.func32, Tryz.ntmps32
 have a0 : W0.cell? ⟨bj, 0, none⟩ = some (.int .i64 t0) := blk_cell HX.out 0
 have a3 : W0.cell? ⟨bj, 3, none⟩ = some (.slice A t3.length c) := blk_cell HX.out 3
 rw [HWd.out, HJd.out] at a0 a3
 go_wp2_with fail
 try rw [← HWd.out]
 try rw [← HJd.out]
 clear a0 a3
 clear d1 d3 d4 d5 d6 q1 q3 q4 q5 q6
 go_loopw [5, 46] (fun t5 t46 wr => ∃ i : Nat, i ≤ t3.length ∧ t46 = .int .i64 (i : Int) ∧ t5 = .int .i64 (((t3.take i).filter (lineV line d)).length : Int) ∧ Aside0 (Below W0.heap.size W0 wr)) (fun _ t46 _ => t3.length - (intOf t46).toNat)
 case atStart => exact ⟨0, Nat.zero_le _, rfl, rfl, ⟨Below.refl _ _⟩⟩
 case round =>
  obtain ⟨i, hi, rfl, rfl, HB⟩ := hrel
  have hle : ((t3.take i).filter (lineV line d)).length ≤ 100 := by
   have h1 := List.length_filter_le (lineV line d) (t3.take i)
   have h2 := List.length_take_le i t3
   have := HM.out
   rw [List.length_take] at h1
   omega
  by_cases hlt : i < t3.length
  ·have hx := Kd.C_below HC.out HB.out
   obtain ⟨ad, A3, c3, hA, k0, k1, k2, k3, l3, g3⟩ := at_T35 hx (i : Int) (by omega) (by omega)
   rw [at_nat hlt] at k0 k1 k2 k3 l3 g3
   rw [Int.toNat_natCast] at k0 k1 k2 k3
   have hcall := Aside0.mk (fun o => HI.out t3[i] A3 c3 (wr.alloc o) (HK.out _ (List.getElem_mem hlt)) (below_step HBW.out (below_alloc HB.out o)) (Kd.C_below g3 (below_alloc (Below.refl _ _) o)) l3)
   have hcn := take_filter (lineV line d) t3 i hlt
   subst hA
   obtain ⟨y, hy⟩ : ∃ y, y = t3[i] := ⟨_, rfl⟩
   rw [← hy] at k0 k1 k2 k3 hcall hcn
   obtain ⟨n, hn⟩ : ∃ n, n = ((t3.take i).filter (lineV line d)).length := ⟨_, rfl⟩
   rw [← hn] at hcn hle ⊢
   obtain ⟨q, hq⟩ : ∃ q, q = lineV line d y := ⟨_, rfl⟩
   rw [← hq] at hcall hcn
   have HCN := Aside0.mk hcn
   have Hlt := Aside0.mk hlt
   obtain ⟨y0, y1, y2, y3⟩ := y
   unfold fv at hcall
   dsimp only at k0 k1 k2 k3 hcall
   clear hx l3 g3 hcn hy hn hq
   cases q with
   | true =>
    go_wp2_with (go_at_call 32; refine (hcall.out _).mono ?_; rintro e w' ⟨rfl, hb'⟩; have HB' := Aside0.mk (below_step (below_alloc HB.out _) hb'); clear hb')
    go_roundw
    case rel => exact ⟨i + 1, by have := Hlt.out; omega, by rw [w64q _ (by have := Hlt.out; have := HM.out; omega)]; rfl, by rw [HCN.out]; simp, HB'⟩
    case measure => have h1 := Hlt.out; have h2 := HM.out; rw [w64q _ (by omega)]; simp [intOf]; omega
   | false =>
    go_wp2_with (go_at_call 32; refine (hcall.out _).mono ?_; rintro e w' ⟨rfl, hb'⟩; have HB' := Aside0.mk (below_step (below_alloc HB.out _) hb'); clear hb')
    go_roundw
    case rel => exact ⟨i + 1, by have := Hlt.out; omega, by rw [w64q _ (by have := Hlt.out; have := HM.out; omega)]; rfl, by rw [HCN.out]; simp, HB'⟩
    case measure => have h1 := Hlt.out; have h2 := HM.out; rw [w64q _ (by omega)]; simp [intOf]; omega
  ·obtain rfl : i = t3.length := by omega
   rw [List.take_length] at hle ⊢
   have hX := heap_below HB.out HX.out
   have a0 : wr.cell? ⟨bj, 0, none⟩ = some (.int .i64 t0) := blk_cell hX 0
   have a3 : wr.cell? ⟨bj, 3, none⟩ = some (.slice A t3.length c) := blk_cell hX 3
   obtain ⟨n, hn⟩ : ∃ n, n = (t3.filter (lineV line d)).length := ⟨_, rfl⟩
   rw [← hn] at hle ⊢
   have HNn := Aside0.mk hn
   clear hX hn hi hlt
   obtain ⟨m, hm⟩ : ∃ m, m = t3.length := ⟨_, rfl⟩
   rw [← hm] at a3 ⊢
   have d0 : decide (m < m) = false := decide_eq_false (Nat.lt_irrefl m)
   have HMm := Aside0.mk hm
   clear hm
   by_cases h7 : t0 = 7
   ·subst h7
    go_wp2
    ·go_ret
     exact ⟨by rw [← HNn.out, ← HMm.out, end7]; first | rfl | (simp; omega), below_step HB0.out HB.out⟩
    ·go_ret
     exact ⟨by rw [← HNn.out, ← HMm.out, end7]; first | rfl | (simp; omega), below_step HB0.out HB.out⟩
   ·have d7 : (t0 == 7) = false := beq_eq_false_iff_ne.2 h7
    have p7 : decide (t0 = 7) = false := decide_eq_false h7
    by_cases h8 : t0 = 8
    ·subst h8
     go_wp2
     go_ret
     exact ⟨by rw [← HNn.out, ← HMm.out, end8]; simp, below_step HB0.out HB.out⟩
    ·have d8 : (t0 == 8) = false := beq_eq_false_iff_ne.2 h8
     have p8 : decide (t0 = 8) = false := decide_eq_false h8
     have H78 := Aside0.mk (And.intro h7 h8)
     clear h7 h8
     go_wp2
     go_ret
     exact ⟨by rw [endE _ _ _ H78.out.1 H78.out.2]; rfl, below_step HB0.out HB.out⟩
theorem ref_step {line : ByteArray} {W : World} (hD : Dec W) (hl : line.size ≤ 1000) {d : Nat} (ih : RefAt line W d) : RefAt line W (d + 1) := by
 intro T A c w hT hb hk hc
 obtain ⟨t0, t1, t2, t3⟩ := T
 obtain ⟨h1, h2, h3, hs, h4⟩ := hT
 unfold fv lineV
 dsimp only at h1 h2 h3 h4 hs hk hc ⊢
 by_cases e1 : t0 = 1
 ·rw [if_pos e1]; subst e1; exact ref_at1 t1 t2 line _ w
 rw [if_neg e1]
 by_cases e3 : t0 = 3
 ·rw [if_pos e3]; subst e3; exact ref_at3 t1 t2 line A _ c (by omega) hD w hb
 rw [if_neg e3]
 by_cases e4 : t0 = 4
 ·rw [if_pos e4]; subst e4; exact ref_at4 t1 t2 line A _ c (by omega) h2 w
 rw [if_neg e4]
 by_cases e5 : t0 = 5
 ·rw [if_pos e5]; subst e5; exact ref_at5 t1 t2 line A _ c (by omega) h1 h2 w
 rw [if_neg e5]
 by_cases e6 : t0 = 6
 ·rw [if_pos (.inl e6)]; subst e6; exact ref_at6 ih t1 t2 t3 (hs rfl) A c w hb h4 hk
 have hr := ref_loop ih t0 ⟨e1, e3, e4, e5, e6⟩ t1 t2 t3 (by omega) A c w hb h4 hk
 unfold endB at hr
 by_cases e7 : t0 = 7
 ·rw [if_pos (.inr e7)]
  subst e7
  rw [cnt_all] at hr
  simpa using hr
 rw [if_neg (fun h => h.elim e6 e7)]
 by_cases e8 : t0 = 8
 ·rw [if_pos e8]
  subst e8
  rw [cnt_any] at hr
  simpa using hr
 rw [if_neg e8]
 rw [beq_eq_false_iff_ne.2 e7, beq_eq_false_iff_ne.2 e8] at hr
 simpa using hr
theorem ref_all {line : ByteArray} {W : World} (hD : Dec W) (hl : line.size ≤ 1000) : ∀ d, RefAt line W d
 | 0 => fun T A c w h => h.elim
 | d + 1 => ref_step hD hl (ref_all hD hl d)
end Go.Proofs.YtpleiklodomgiaaGreatDoor.Q
end
