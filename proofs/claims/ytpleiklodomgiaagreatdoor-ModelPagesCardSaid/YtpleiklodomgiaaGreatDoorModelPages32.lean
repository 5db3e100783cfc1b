import Derived.Test.YtpleiklodomgiaaGreatDoorModelPages28
import Derived.Test.YtpleiklodomgiaaGreatDoorModelPages31
import Derived.Test.YtpleiklodomgiaaGreatDoorModelPages27
set_option linter.unusedVariables false
set_option linter.unusedSimpArgs false
section
namespace Go.Proofs.YtpleiklodomgiaaGreatDoor.B
end Go.Proofs.YtpleiklodomgiaaGreatDoor.B
namespace Go.Proofs.YtpleiklodomgiaaGreatDoor.PModelIs
end Go.Proofs.YtpleiklodomgiaaGreatDoor.PModelIs
namespace Go.Proofs.YtpleiklodomgiaaGreatDoor.W
end Go.Proofs.YtpleiklodomgiaaGreatDoor.W
namespace Go.Proofs.YtpleiklodomgiaaGreatDoor.M
open Go.RowKit Go.Proofs.YtpleiklodomgiaaGreatDoorW.PrintWords Go.Proofs.YtpleiklodomgiaaGreatDoorW.PrintLast Go.Proofs.YtpleiklodomgiaaGreatDoorW.PrintMore Go.Proofs.YtpleiklodomgiaaGreatDoor.B Go.Proofs.YtpleiklodomgiaaGreatDoor.W Go.Proofs.YtpleiklodomgiaaGreatDoor.PModelIs
def Spl (w : World) : Prop := ∀ (s : ByteArray) (w' : World), s.size < 4294967281 → Below w.heap.size w w' → Calls Tryz.prog 68 #[.string s, .string ⟨#[32]⟩] w' fun e w2 => e = .returned (.slice (some ⟨w'.heap.size, 0, none⟩) (Lib.countB s ⟨#[32]⟩ + 1) (Lib.countB s ⟨#[32]⟩ + 1)) ∧ w2 = w'.alloc (.cells ((Lib.splitB ⟨#[32]⟩ 0 (Lib.countB s ⟨#[32]⟩) s).map Value.string).toArray 9)
theorem count_le (s : ByteArray) : Lib.countB s ⟨#[32]⟩ ≤ s.size := by
 have h : Lib.countB s ⟨#[32]⟩ = s.data.toList.count 32 := Lib.count_one 32 s.data.toList
 rw [h, ← size_list]
 exact List.count_le_length
theorem contains_any {w : World} {v : Value} {xs : List ByteArray} (t : ByteArray) (h0 : ReadsS w v xs) (hm : xs.length ≤ 4611686018427) : Calls Tryz.prog 67 #[v, .string t] w fun e w' => e = .returned (.bool (xs.any fun y => t.toList == y.toList)) ∧ Below w.heap.size w w' := by
 obtain ⟨A0, c0, rfl, a1, a2, a3⟩ := h0
 refine (slices_Contains_string_string.calls (xs.length + 1) A0 c0 xs t _ w (Kd.C_of_reads (d := ByteArray.empty) ⟨rfl, a2, a3⟩) a1 (contains_f xs t hm)).mono ?_
 rintro e w' ⟨rfl, hd⟩
 exact ⟨rfl, hd.below⟩
theorem field_any {W w : World} (hS : Spl W) (hb : Below W.heap.size W w) (s t : ByteArray) (hs : s.size ≤ 2000) : Calls Tryz.prog 52 #[.string s, .string t] w fun e w' => e = .returned (.bool (hasP s t)) ∧ Below w.heap.size w w' := by
 have hsp := hS s w (by omega) hb
 have hlen := Lib.splitB_all ⟨#[32]⟩ (by decide) 0 _ s rfl
 have hany := split_any s t
 have hc := count_le s
 obtain ⟨xs, hxs⟩ : ∃ xs, xs = Lib.splitB ⟨#[32]⟩ 0 (Lib.countB s ⟨#[32]⟩) s := ⟨_, rfl⟩
 rw [← hxs] at hsp hlen hany
 rw [← hlen] at hsp
 have hr := readsS_new w 9 xs (by omega)
 have hcon := contains_any t hr (by omega)
 rw [hany] at hcon
 have Hsp := Aside0.mk hsp
 have Hcon := Aside0.mk hcon
 clear hsp hlen hany hc hxs hr hcon hS hb hs
 go_enter Tryz.func52, Tryz.ntmps52
 go_wp2_with (first
  | (go_at_call 68; with_reducible refine Hsp.out.mono ?_; rintro e w1 ⟨rfl, rfl⟩)
  | (go_at_call 67; with_reducible refine Hcon.out.mono ?_; rintro e w2 ⟨rfl, hb2⟩; have HB2 := Aside0.mk (below_step (below_alloc (Below.refl _ w) _) hb2); clear hb2))
 go_ret
 exact ⟨rfl, HB2.out⟩
theorem piece_any (s t : ByteArray) (hm : s.size ≤ 4611686018427) (w : World) : Calls Tryz.prog 44 #[.string s, .string t] w fun e w' => e = .returned (.bool (hasP s t)) ∧ Below w.heap.size w w' := by
 refine (magpieref09_piece.calls (2 * s.size + 4) s t _ w (piece_f s t hm)).mono ?_
 rintro e w' ⟨rfl, hd⟩
 exact ⟨rfl, hd.below⟩
end Go.Proofs.YtpleiklodomgiaaGreatDoor.M
end
section
namespace Go.Proofs.YtpleiklodomgiaaGreatDoor.M
end Go.Proofs.YtpleiklodomgiaaGreatDoor.M
namespace Go.Proofs.YtpleiklodomgiaaGreatDoor.F
open Go.RowKit Go.Proofs.YtpleiklodomgiaaGreatDoorW.PrintWords Go.Proofs.YtpleiklodomgiaaGreatDoorW.PrintLast Go.Proofs.YtpleiklodomgiaaGreatDoorW.PrintMore Go.Proofs.YtpleiklodomgiaaGreatDoor.B Go.Proofs.YtpleiklodomgiaaGreatDoor.W Go.Proofs.YtpleiklodomgiaaGreatDoor.M Go.Proofs.YtpleiklodomgiaaGreatDoor.PModelIs
def fv (T : S35) (A : Option Addr) (c : Nat) : Value := .agg #[.int .i64 T.f0, .string T.f1, .string T.f2, .slice A T.f3.length c]
def PB (g : Nat) (lb : Array Value) (p : S35 → Bool) (xs : List S35) (w : World) : Prop :=
 ∀ (W : World) (x : S35) (A : Option Addr) (c : Nat), x ∈ xs → Below w.heap.size w W → Kd.C k35 W A x.f3.length x.f3 → x.f3.length ≤ c → Calls Tryz.prog g (#[fv x A c] ++ lb) W fun e w' => e = .returned (.bool (p x)) ∧ Below W.heap.size W w'
theorem mem_at {xs : List S35} {i : Nat} (h : i < xs.length) : rd_T35 xs (i : Int) ∈ xs := by
 unfold rd_T35
 rw [Int.toNat_natCast, List.getD_eq_getElem?_getD, List.getElem?_eq_getElem h]
 exact List.getElem_mem h
theorem at_nat {xs : List S35} {j : Nat} (h : j < xs.length) : rd_T35 xs (j : Int) = xs[j] := by
 unfold rd_T35
 rw [Int.toNat_natCast, List.getD_eq_getElem?_getD, List.getElem?_eq_getElem h]
 rfl
set_option maxRecDepth 20000 in
set_option maxHeartbeats 2000000 in
theorem indexF (g : Nat) (lb : Array Value) (eg : ∀ args w, (callFunc g args).run Tryz.prog w = .ok (.enter g args) w) (p : S35 → Bool) (xs : List S35) (A : Option Addr) (c : Nat) (w : World) (hp : PB g lb p xs w) (hx : Kd.C k35 w A xs.length xs) (hc : xs.length ≤ c) (hm : xs.length ≤ 100) :
  Calls Tryz.prog 69 #[.slice A xs.length c, .func (.func g) #[] lb] w fun e w' => ∃ r : Int, e = .returned (.int .i64 r) ∧ (decide (0 ≤ r) = xs.any p) ∧ Below w.heap.size w w' := by
 have HP := Aside0.mk hp
 have HX := Aside0.mk hx
 have HC := Aside0.mk hc
 have HM := Aside0.mk hm
 clear hp hx hc hm
 go_enter Tryz.func69, Tryz.ntmps69
 go_wp2
 go_loopg [5, 8] xs.length (fun gg _ s8 wr => ∃ kk : Nat, kk ≤ xs.length ∧ xs.length - kk ≤ gg ∧ s8 = .int .i64 kk ∧ Aside0 (Below w.heap.size w wr) ∧ Aside0 (∀ j, j < kk → p (rd_T35 xs (j : Int)) = false))
 case atStart => exact ⟨0, Nat.zero_le _, by omega, rfl, ⟨Below.refl _ w⟩, ⟨fun j hj => absurd hj (Nat.not_lt_zero _)⟩⟩
 case round =>
  obtain ⟨kk, hkk, hg, rfl, BW, AL⟩ := hrel
  by_cases hlt : kk < xs.length
  ·have hltz : (kk : Int) < (xs.length : Int) := by omega
   have hx := Kd.C_below HX.out BW.out
   obtain ⟨ad, A3, c3, hA, k0, k1, k2, k3, l3, g3⟩ := at_T35 hx (kk : Int) (by omega) hltz
   have hcall := HP.out wr _ A3 c3 (mem_at hlt) BW.out g3 l3
   clear hx g3 l3
   subst hA
   rw [Int.toNat_natCast] at k0 k1 k2 k3
   unfold fv at hcall
   generalize hy : rd_T35 xs (kk : Int) = y at k0 k1 k2 k3 hcall
   have HY := Aside0.mk hy
   clear hy
   have HN := Aside0.mk hlt
   have d1 : decide ((kk : Int) < (xs.length : Int)) = true := decide_eq_true hltz
   have d2 : decide (0 ≤ (kk : Int)) = true := decide_eq_true (by omega)
   have Hg := Aside0.mk hg
   have Hkk := Aside0.mk hkk
   clear hg hkk
   obtain ⟨y0, y1, y2, y3⟩ := y
   dsimp only at k0 k1 k2 k3 hcall
   cases hq : p ⟨y0, y1, y2, y3⟩ with
   | true =>
    rw [hq] at hcall
    have HQ := Aside0.mk hq
    clear hq
    go_wp2_with (go_at_fn g; refine hcall.mono ?_; rintro e w' ⟨rfl, hb'⟩; have HB' := Aside0.mk hb'; clear hb')
    go_ret
    refine ⟨_, rfl, ?_, below_step BW.out HB'.out⟩
    rw [List.any_eq_true.2 ⟨_, mem_at HN.out, by rw [HY.out]; exact HQ.out⟩]
    exact d2
   | false =>
    rw [hq] at hcall
    have HQ := Aside0.mk hq
    clear hq
    go_wp2_with (go_at_fn g; refine hcall.mono ?_; rintro e w' ⟨rfl, hb'⟩; have HB' := Aside0.mk hb'; clear hb')
    go_roundg (xs.length - (kk + 1))
    case measure => have := Hg.out; omega
    case rel =>
     have := HM.out
     refine ⟨kk + 1, by omega, by omega, ?_, ⟨below_step BW.out HB'.out⟩, ⟨fun j hj => ?_⟩⟩
     ·rw [w64_in _ (by omega)]; rfl
     ·by_cases e : j = kk
      ·subst e
       rw [HY.out]; exact HQ.out
      ·exact AL.out j (by omega)
  ·have hltz : ¬ (kk : Int) < (xs.length : Int) := by omega
   have d1 : decide (kk < xs.length) = false := decide_eq_false hlt
   have he : kk = xs.length := by omega
   have AL2 := Aside0.mk (fun j (hj : j < xs.length) => AL.out j (by omega))
   clear AL he hltz hlt hg hkk eg
   go_wp2
   go_ret
   refine ⟨_, rfl, ?_, BW.out⟩
   have hno : xs.any p = false := by
    rw [List.any_eq_false]
    intro x hxm hpx
    obtain ⟨j, hj, rfl⟩ := List.getElem_of_mem hxm
    have := AL2.out j hj
    rw [at_nat hj] at this
    rw [this] at hpx
    cases hpx
   rw [hno]
   rfl
theorem containsF (g : Nat) (lb : Array Value) (eg : ∀ args w, (callFunc g args).run Tryz.prog w = .ok (.enter g args) w) (p : S35 → Bool) (xs : List S35) (A : Option Addr) (c : Nat) (w : World) (hp : PB g lb p xs w) (hx : Kd.C k35 w A xs.length xs) (hc : xs.length ≤ c) (hm : xs.length ≤ 100) :
  Calls Tryz.prog 53 #[.slice A xs.length c, .func (.func g) #[] lb] w fun e w' => e = .returned (.bool (xs.any p)) ∧ Below w.heap.size w w' := by
 have hI := indexF g lb eg p xs A c w hp hx hc hm
 clear eg hp hx hc hm
 obtain ⟨n, hn⟩ : ∃ n, n = xs.length := ⟨_, rfl⟩
 rw [← hn] at hI ⊢
 obtain ⟨q, hq⟩ : ∃ q, q = xs.any p := ⟨_, rfl⟩
 rw [← hq] at hI ⊢
 clear hn hq
 have HI := Aside0.mk hI
 clear hI
 go_enter Tryz.func53, Tryz.ntmps53
 go_wp2_with (go_at_call 69; refine HI.out.mono ?_; rintro e w' ⟨r, rfl, hr, hb'⟩; have HB' := Aside0.mk hb'; have HR := Aside0.mk hr; clear hb' hr)
 go_ret
 exact ⟨by rw [← HR.out]; rfl, HB'.out⟩
end Go.Proofs.YtpleiklodomgiaaGreatDoor.F
end
