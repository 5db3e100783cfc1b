import Derived.Test.YtpleiklodomgiaaGreatDoorModelPages35
import Derived.Test.YtpleiklodomgiaaGreatDoorModelPages32
import Derived.Test.YtpleiklodomgiaaGreatDoorModelPages30
import Derived.Test.YtpleiklodomgiaaGreatDoorModelPages7
set_option linter.unusedVariables false
set_option linter.unusedSimpArgs false
section
namespace Go.Proofs.YtpleiklodomgiaaGreatDoor.B
end Go.Proofs.YtpleiklodomgiaaGreatDoor.B
namespace Go.Proofs.YtpleiklodomgiaaGreatDoor.Hi
end Go.Proofs.YtpleiklodomgiaaGreatDoor.Hi
namespace Go.Proofs.YtpleiklodomgiaaGreatDoor.W
end Go.Proofs.YtpleiklodomgiaaGreatDoor.W
namespace Go.Proofs.YtpleiklodomgiaaGreatDoor.M
open Go.RowKit Go.Shelf Go.Proofs.YtpleiklodomgiaaGreatDoor.Hi Go.Proofs.YtpleiklodomgiaaGreatDoorW.PrintWords Go.Proofs.YtpleiklodomgiaaGreatDoorW.PrintLast Go.Proofs.YtpleiklodomgiaaGreatDoor.B Go.Proofs.YtpleiklodomgiaaGreatDoor.W
theorem cells4 {W : World} {b : Nat} {a c d e : Value} {t : TypeId} (h : W.heap[b]? = some (.cells #[a, c, d, e] t (0, 0))) : W.cell? ⟨b, 0, none⟩ = some a ∧ W.cell? ⟨b, 1, none⟩ = some c ∧ W.cell? ⟨b, 2, none⟩ = some d ∧ W.cell? ⟨b, 3, none⟩ = some e :=
 ⟨by rw [blk_cell h]; rfl, by rw [blk_cell h]; rfl, by rw [blk_cell h]; rfl, by rw [blk_cell h]; rfl⟩
def kv : ByteArray := ⟨#[107, 101, 121, 61, 115, 111, 109, 101]⟩
end Go.Proofs.YtpleiklodomgiaaGreatDoor.M
end
section
namespace Go.Proofs.YtpleiklodomgiaaGreatDoor.M
end Go.Proofs.YtpleiklodomgiaaGreatDoor.M
namespace Go.Proofs.YtpleiklodomgiaaGreatDoor.PModelIs
end Go.Proofs.YtpleiklodomgiaaGreatDoor.PModelIs
namespace Go.Proofs.YtpleiklodomgiaaGreatDoor.F
open Go.RowKit Go.Shelf Go.Proofs.YtpleiklodomgiaaGreatDoor.Hi Go.Proofs.YtpleiklodomgiaaGreatDoorW.PrintWords Go.Proofs.YtpleiklodomgiaaGreatDoorW.PrintLast Go.Proofs.YtpleiklodomgiaaGreatDoorW.PrintMore Go.Proofs.YtpleiklodomgiaaGreatDoor.B Go.Proofs.YtpleiklodomgiaaGreatDoor.W Go.Proofs.YtpleiklodomgiaaGreatDoor.M Go.Proofs.YtpleiklodomgiaaGreatDoor.PModelIs
def lineV (line : ByteArray) : Nat → S35 → Bool
 | 0, _ => false
 | d + 1, T => if T.f0 = 1 then true else if T.f0 = 3 then hasB line T.f2 else if T.f0 = 4 then Lib.contains line.data.toList T.f2.data.toList
  else if T.f0 = 5 then hasP line (T.f1 ++ ⟨#[61]⟩ ++ T.f2) else if T.f0 = 6 ∨ T.f0 = 7 then ((T.f3.any fun k => !lineV line d k) == (T.f0 == 6)) else if T.f0 = 8 then T.f3.any (lineV line d) else false
def LineAt (line : ByteArray) (W : World) (d : Nat) : Prop := ∀ (T : S35) (A : Option Addr) (c : Nat) (w : World), OkT d T → Below W.heap.size W w → Kd.C k35 w A T.f3.length T.f3 → T.f3.length ≤ c →
 Calls Tryz.prog 35 #[fv T A c, .string line] w fun e w' => e = .returned (.bool (lineV line d T)) ∧ Below w.heap.size w w'
theorem box_cell {w : World} {b : Nat} {v : Value} {t : TypeId} (h : w.heap[b]? = some (.cells #[v] t (0, 0))) : w.cell? ⟨b, 0, none⟩ = some v := by rw [blk_cell h]; rfl
theorem clo1 {line : ByteArray} {W0 : World} {d : Nat} (ih : LineAt line W0 d) (bl : Nat) (w : World) (hw : Below W0.heap.size W0 w) (hb : w.heap[bl]? = some (.cells #[.string line] 9 (0, 0))) (xs : List S35) (hx : ∀ x ∈ xs, OkT d x) :
  PB 48 #[.pointer (some ⟨bl, 0, none⟩)] (lineV line d) xs w := by
 intro W x A c hm hB hC hl
 have hlt : bl < w.heap.size := (Array.getElem?_eq_some_iff.1 hb).1
 have hcell : ∀ o : Obj, (W.alloc o).cell? ⟨bl, 0, none⟩ = some (.string line) := fun o => box_cell (((below_alloc hB o).block bl hlt).trans hb)
 have HI := Aside0.mk (fun o => ih x A c (W.alloc o) (hx x hm) (below_step hw (below_alloc hB o)) (Kd.C_below hC (below_alloc (Below.refl _ W) o)) hl)
 clear ih hw hb hx hm hB hC hl hlt
 unfold fv at HI ⊢
 obtain ⟨q, hq⟩ : ∃ q, q = lineV line d x := ⟨_, rfl⟩
 rw [← hq] at HI ⊢
 clear hq
 simp only [List.append_toArray, List.cons_append, List.nil_append]
 go_enter Tryz.func48, Tryz.ntmps48
 go_wp2_with (go_at_call 35; refine (HI.out _).mono ?_; rintro e w' ⟨rfl, hb'⟩; have HB' := Aside0.mk hb'; clear hb')
 go_ret
 exact ⟨rfl, below_step (below_alloc (Below.refl _ W) _) HB'.out⟩
theorem clo2 {line : ByteArray} {W0 : World} {d : Nat} (ih : LineAt line W0 d) (bl : Nat) (w : World) (hw : Below W0.heap.size W0 w) (hb : w.heap[bl]? = some (.cells #[.string line] 9 (0, 0))) (xs : List S35) (hx : ∀ x ∈ xs, OkT d x) :
  PB 49 #[.pointer (some ⟨bl, 0, none⟩)] (fun k => !lineV line d k) xs w := by
 intro W x A c hm hB hC hl
 have hlt : bl < w.heap.size := (Array.getElem?_eq_some_iff.1 hb).1
 have hcell : ∀ o : Obj, (W.alloc o).cell? ⟨bl, 0, none⟩ = some (.string line) := fun o => box_cell (((below_alloc hB o).block bl hlt).trans hb)
 have HI := Aside0.mk (fun o => ih x A c (W.alloc o) (hx x hm) (below_step hw (below_alloc hB o)) (Kd.C_below hC (below_alloc (Below.refl _ W) o)) hl)
 clear ih hw hb hx hm hB hC hl hlt
 unfold fv at HI ⊢
 dsimp only
 obtain ⟨q, hq⟩ : ∃ q, q = lineV line d x := ⟨_, rfl⟩
 rw [← hq] at HI ⊢
 clear hq
 simp only [List.append_toArray, List.cons_append, List.nil_append]
 go_enter Tryz.func49, Tryz.ntmps49
 go_wp2_with (go_at_call 35; refine (HI.out _).mono ?_; rintro e w' ⟨rfl, hb'⟩; have HB' := Aside0.mk hb'; clear hb')
 go_ret
 exact ⟨rfl, below_step (below_alloc (Below.refl _ W) _) HB'.out⟩
theorem eg1 : ∀ args w, (callFunc 48 args).run Tryz.prog w = .ok (.enter 48 args) w := enters_of Tryz.func48 (by kernel_rfl) rfl
theorem eg2 : ∀ args w, (callFunc 49 args).run Tryz.prog w = .ok (.enter 49 args) w := enters_of Tryz.func49 (by kernel_rfl) rfl
theorem line_at1 (t1 t2 line : ByteArray) (v3 : Value) (w : World) : Calls Tryz.prog 35 #[.agg #[.int .i64 1, .string t1, .string t2, v3], .string line] w fun e w' => e = .returned (.bool true) ∧ Below w.heap.size w w' := by
 have hmf : ∀ (fn : Fn) (first cap : Array Value) (w : World), (Instr.makeFunc fn first cap).run Tryz.prog w = .ok (.func fn first cap) w := fun _ _ _ _ => rfl
 go_enter Tryz.func35, Tryz.ntmps35
 go_wp2
 go_ret
 exact ⟨rfl, below_alloc (below_alloc (Below.refl _ w) _) _⟩
theorem line_at3 (t1 t2 line : ByteArray) (A : Option Addr) (n c : Nat) (hl : line.size ≤ 4611686018427) (w : World) : Calls Tryz.prog 35 #[.agg #[.int .i64 3, .string t1, .string t2, .slice A n c], .string line] w fun e w' => e = .returned (.bool (hasB line t2)) ∧ Below w.heap.size w w' := by
 have Hh := Aside0.mk (fun w => has_any line t2 w hl)
 go_enter Tryz.func35, Tryz.ntmps35
 go_wp2_with (go_at_call 50; with_reducible refine (Hh.out _).mono ?_; rintro e w1 ⟨rfl, hb1⟩; have HB1 := Aside0.mk hb1; clear hb1)
 go_ret
 exact ⟨rfl, below_step (below_alloc (below_alloc (Below.refl _ w) _) _) HB1.out⟩
theorem line_at4 {W w : World} (hC : Con W) (hb : Below W.heap.size W w) (t1 t2 line : ByteArray) (A : Option Addr) (n c : Nat) (hl : line.size ≤ 2000) : Calls Tryz.prog 35 #[.agg #[.int .i64 4, .string t1, .string t2, .slice A n c], .string line] w fun e w' => e = .returned (.bool (Lib.contains line.data.toList t2.data.toList)) ∧ Below w.heap.size w w' := by
 have hlt : line.size < 4294967281 := by omega
 have Hh : Aside0 (∀ w', Below w.heap.size w w' → Calls Tryz.prog 51 #[.string line, .string t2] w' fun e w2 => e = .returned (.bool (Lib.contains line.data.toList t2.data.toList)) ∧ w2 = w') := ⟨fun w' hb' => hC line t2 w' hlt (below_step hb hb')⟩
 clear hlt
 clear hC hb
 go_enter Tryz.func35, Tryz.ntmps35
 go_wp2_with (go_at_call 51; with_reducible refine (Hh.out _ (below_alloc (below_alloc (Below.refl _ w) _) _)).mono ?_; rintro e w1 ⟨rfl, hw1⟩; have HW1 := Aside0.mk hw1; clear hw1)
 go_ret
 exact ⟨rfl, by rw [HW1.out]; exact below_alloc (below_alloc (Below.refl _ w) _) _⟩
theorem line_at5 {W w : World} (hS : Spl W) (hb : Below W.heap.size W w) (t1 t2 line : ByteArray) (A : Option Addr) (n c : Nat) (hl : line.size ≤ 2000) (h1 : t1.size ≤ 100) (h2 : t2.size ≤ 100) : Calls Tryz.prog 35 #[.agg #[.int .i64 5, .string t1, .string t2, .slice A n c], .string line] w fun e w' => e = .returned (.bool (hasP line (t1 ++ ⟨#[61]⟩ ++ t2))) ∧ Below w.heap.size w w' := by
 have Hf : ∀ t, Aside0 (∀ w', Below w.heap.size w w' → Calls Tryz.prog 52 #[.string line, .string t] w' fun e w'' => e = .returned (.bool (hasP line t)) ∧ Below w'.heap.size w' w'') := fun t => ⟨fun w' hb' => field_any hS (below_step hb hb') line t hl⟩
 have Hh := Hf (t1 ++ ⟨#[61]⟩ ++ t2)
 clear Hf
 have c1 : (9223372036854775807 < t1.size + 1) = False := by simp; omega
 have c2 : (9223372036854775807 < t1.size + 1 + t2.size) = False := by simp; omega
 clear hS hb h1 h2 hl
 go_enter Tryz.func35, Tryz.ntmps35
 go_wp2_with (go_at_call 52; with_reducible refine (Hh.out _ (below_alloc (below_alloc (Below.refl _ w) _) _)).mono ?_; rintro e w1 ⟨rfl, hb1⟩; have HB1 := Aside0.mk hb1; clear hb1)
 go_ret
 exact ⟨rfl, below_step (below_alloc (below_alloc (Below.refl _ w) _) _) HB1.out⟩
theorem line_else (t0 : Int) (h : t0 ≠ 1 ∧ t0 ≠ 3 ∧ t0 ≠ 4 ∧ t0 ≠ 5 ∧ t0 ≠ 6 ∧ t0 ≠ 7 ∧ t0 ≠ 8) (t1 t2 line : ByteArray) (v3 : Value) (w : World) : Calls Tryz.prog 35 #[.agg #[.int .i64 t0, .string t1, .string t2, v3], .string line] w fun e w' => e = .returned (.bool false) ∧ Below w.heap.size w w' := by
 have hmf : ∀ (fn : Fn) (first cap : Array Value) (w : World), (Instr.makeFunc fn first cap).run Tryz.prog w = .ok (.func fn first cap) w := fun _ _ _ _ => rfl
 obtain ⟨h1, h3, h4, h5, h6, h7, h8⟩ := h
 go_enter Tryz.func35, Tryz.ntmps35
 go_wp2
 go_ret
 exact ⟨rfl, below_alloc (below_alloc (Below.refl _ w) _) _⟩
theorem boxes (w : World) (o o' : Obj) : ((w.alloc o).alloc o').heap[w.heap.size]? = (w.alloc o).heap[w.heap.size]? := (below_alloc (Below.refl _ (w.alloc o)) o').block w.heap.size (by simp)
theorem line_at8 {line : ByteArray} {W : World} {d : Nat} (ih : LineAt line W d) (t1 t2 : ByteArray) (t3 : List S35) (A : Option Addr) (c : Nat) (w : World) (hb : Below W.heap.size W w) (hk : ∀ k ∈ t3, OkT d k) (h3 : t3.length ≤ 100) (hC : Kd.C k35 w A t3.length t3) (hc : t3.length ≤ c) : Calls Tryz.prog 35 #[.agg #[.int .i64 8, .string t1, .string t2, .slice A t3.length c], .string line] w fun e w' => e = .returned (.bool (t3.any (lineV line d))) ∧ Below w.heap.size w w' := by
 have hmf : ∀ (fn : Fn) (first cap : Array Value) (w : World), (Instr.makeFunc fn first cap).run Tryz.prog w = .ok (.func fn first cap) w := fun _ _ _ _ => rfl
 have HH : ∀ o, Aside0 (Calls Tryz.prog 53 #[.slice A t3.length c, .func (.func 48) #[] #[.pointer (some ⟨w.heap.size + 1, 0, none⟩)]] ((w.alloc o).alloc (.cells #[.string line] 9)) fun e w' => e = .returned (.bool (t3.any (lineV line d))) ∧ Below ((w.alloc o).alloc (.cells #[.string line] 9)).heap.size ((w.alloc o).alloc (.cells #[.string line] 9)) w') := fun o => ⟨by
  have hbb := below_alloc (below_alloc (Below.refl _ w) o) (.cells #[.string line] 9)
  exact containsF _ _ eg1 _ t3 A c _ (clo1 ih (w.heap.size + 1) _ (below_step hb hbb) (by have := World.alloc_heap_new (w.alloc o) (.cells #[.string line] 9); simpa using this) t3 hk) (Kd.C_below hC hbb) hc h3⟩
 clear ih hb hk h3 hC hc
 obtain ⟨q, hq⟩ : ∃ q, q = t3.any (lineV line d) := ⟨_, rfl⟩
 obtain ⟨n, hn⟩ : ∃ n, n = t3.length := ⟨_, rfl⟩
 rw [← hq] at HH ⊢
 rw [← hn] at HH ⊢
 clear hq hn
 go_enter Tryz.func35, Tryz.ntmps35
 go_wp2_with (go_at_call 53; refine ((HH _).out).mono ?_; rintro e w1 ⟨rfl, hb1⟩; have HB1 := Aside0.mk hb1; clear hb1)
 go_ret
 exact ⟨rfl, below_step (below_alloc (below_alloc (Below.refl _ w) _) _) HB1.out⟩
theorem line_at67 {line : ByteArray} {W : World} {d : Nat} (ih : LineAt line W d) (t0 : Int) (ht : t0 = 6 ∨ t0 = 7) (t1 t2 : ByteArray) (t3 : List S35) (A : Option Addr) (c : Nat) (w : World) (hb : Below W.heap.size W w) (hk : ∀ k ∈ t3, OkT d k) (h3 : t3.length ≤ 100) (hC : Kd.C k35 w A t3.length t3) (hc : t3.length ≤ c) : Calls Tryz.prog 35 #[.agg #[.int .i64 t0, .string t1, .string t2, .slice A t3.length c], .string line] w fun e w' => e = .returned (.bool ((t3.any fun k => !lineV line d k) == (t0 == 6))) ∧ Below w.heap.size w w' := by
 have hmf : ∀ (fn : Fn) (first cap : Array Value) (w : World), (Instr.makeFunc fn first cap).run Tryz.prog w = .ok (.func fn first cap) w := fun _ _ _ _ => rfl
 have HH : ∀ V, Below w.heap.size w V → V.heap[w.heap.size + 1]? = some (.cells #[.string line] 9 (0, 0)) → Aside0 (Calls Tryz.prog 53 #[.slice A t3.length c, .func (.func 49) #[] #[.pointer (some ⟨w.heap.size + 1, 0, none⟩)]] V fun e w' => e = .returned (.bool (t3.any fun k => !lineV line d k)) ∧ Below V.heap.size V w') := fun V hV hbx => ⟨
  containsF _ _ eg2 _ t3 A c _ (clo2 ih (w.heap.size + 1) _ (below_step hb hV) hbx t3 hk) (Kd.C_below hC hV) hc h3⟩
 clear ih hb hk h3 hC hc
 obtain ⟨q, hq⟩ : ∃ q, q = t3.any fun k => !lineV line d k := ⟨_, rfl⟩
 obtain ⟨n, hn⟩ : ∃ n, n = t3.length := ⟨_, rfl⟩
 rw [← hq] at HH ⊢
 rw [← hn] at HH ⊢
 clear hq hn
 have d1 : decide (t0 = 1) = false := decide_eq_false (by omega)
 have d3 : decide (t0 = 3) = false := decide_eq_false (by omega)
 have d4 : decide (t0 = 4) = false := decide_eq_false (by omega)
 have d5 : decide (t0 = 5) = false := decide_eq_false (by omega)
 obtain ⟨z, hz⟩ : ∃ z, z = (t0 == 6) := ⟨_, rfl⟩
 refine (callsIn_wide (n := 9)).1 ?_
 refine callsIn_of_wp Tryz.func35 rfl trivial ?_ rfl
 simp only [Tryz.ntmps35, List.size_toArray, List.length_cons, List.length_nil, Nat.reduceAdd, Nat.reduceSub, Array.replicate_succ, Array.replicate_zero, List.push_toArray, List.append_toArray, List.nil_append, List.cons_append]
 rcases ht with rfl | rfl
 ·gi_wp2_with fail
  have hbb := below_alloc (below_alloc (Below.refl _ w) (.cells #[.int .i64 6, .string t1, .string t2, .slice A n c] 35)) (.cells #[.string line] 9)
  have HBd : Aside0 (Below w.heap.size w ((w.alloc (.cells #[.int .i64 6, .string t1, .string t2, .slice A n c] 35)).alloc (.cells #[.string line] 9)).drew) := ⟨pw_below_drewN hbb 1⟩
  have HSd : Aside0 (((w.alloc (.cells #[.int .i64 6, .string t1, .string t2, .slice A n c] 35)).alloc (.cells #[.string line] 9)).drew.heap[w.heap.size]? = some (.cells #[.int .i64 6, .string t1, .string t2, .slice A n c] 35 (0, 0))) := ⟨(boxes w _ _).trans (World.alloc_heap_new w _)⟩
  have hL0 : ((w.alloc (.cells #[.int .i64 6, .string t1, .string t2, .slice A n c] 35)).alloc (.cells #[.string line] 9)).heap[w.heap.size + 1]? = some (.cells #[.string line] 9 (0, 0)) := by have := World.alloc_heap_new (w.alloc (.cells #[.int .i64 6, .string t1, .string t2, .slice A n c] 35)) (.cells #[.string line] 9); simpa using this
  have HLd : Aside0 (((w.alloc (.cells #[.int .i64 6, .string t1, .string t2, .slice A n c] 35)).alloc (.cells #[.string line] 9)).drew.heap[w.heap.size + 1]? = some (.cells #[.string line] 9 (0, 0))) := ⟨hL0⟩
  clear hL0
  clear hbb
  obtain ⟨V, hV⟩ : ∃ V, V = ((w.alloc (.cells #[.int .i64 6, .string t1, .string t2, .slice A n c] 35)).alloc (.cells #[.string line] 9)) := ⟨_, rfl⟩
  rw [← hV] at HBd HSd HLd ⊢
  have HC := HH _ HBd.out HLd.out
  clear HH HLd hV
  have Hbl : Aside0 (w.heap.size < V.drew.heap.size) := ⟨(Array.getElem?_eq_some_iff.1 HSd.out).1⟩
  have hfo : (Tryz.prog).follows .mixedOrders = true := by kernel_rfl
  obtain ⟨b, hb⟩ : ∃ b, b = w.heap.size := ⟨_, rfl⟩
  obtain ⟨bl, hbl⟩ : ∃ bl, bl = w.heap.size + 1 := ⟨_, rfl⟩
  have HBd2 : Aside0 (Below b w V.drew) := ⟨hb ▸ HBd.out⟩
  rw [← hbl] at HC ⊢
  rw [← hb] at HSd Hbl ⊢
  have HBB := Aside0.mk hb
  clear HBd hbl hb
  refine hi_start 9 (fun W_ => W_.heap[b]? = some (.cells #[.int .i64 6, .string t1, .string t2, .slice A n c] 35 (0, 0))) hfo ?_
  refine hi_pure 0 (some 38) (v := ?_) (L' := #[true, false, false, false, false, false, false, false, false]) (a' := ?_) rfl rfl rfl (by kernel_rfl) (fun _ _ _ h => h) (fun _ => rfl) (fun _ => HSd.out) (Or.inl ⟨by rfl, ?_⟩) ?_ ?_
  rotate_left 2
  ·intro w_
   go_simp
   try with_reducible rfl
  ·simp only [Act.put, List.setIfInBounds_toArray, List.set_cons_zero, List.set_cons_succ, i64_w, i32_w]
   rfl
  refine hi_take 1 (some 39) (v := ?_) (L' := #[true, true, false, false, false, false, false, false, false]) (a' := ?_) rfl rfl rfl (by kernel_rfl) (fun _ _ _ h => h) (fun _ => rfl) HSd.out (Or.inl ⟨by rfl, ?_⟩) ?_ ?_
  rotate_left 2
  ·intro w_ hw_
   obtain ⟨k0, k1, k2, k3⟩ := cells4 (hw_)
   go_simp
   try with_reducible rfl
  ·simp only [Act.put, List.setIfInBounds_toArray, List.set_cons_zero, List.set_cons_succ, i64_w, i32_w]
   rfl
  refine hi_pure 2 (some 40) (v := ?_) (L' := #[true, true, true, false, false, false, false, false, false]) (a' := ?_) rfl rfl rfl (by kernel_rfl) (fun _ _ _ h => h) (fun _ => rfl) (fun _ => HSd.out) (Or.inl ⟨by rfl, ?_⟩) ?_ ?_
  rotate_left 2
  ·intro w_
   go_simp
   try with_reducible rfl
  ·simp only [Act.put, List.setIfInBounds_toArray, List.set_cons_zero, List.set_cons_succ, i64_w, i32_w]
   rfl
  refine hi_pure 4 (some 42) (v := ?_) (L' := #[true, true, true, false, true, false, false, false, false]) (a' := ?_) rfl rfl rfl (by kernel_rfl) (fun _ _ _ h => h) (fun _ => rfl) (fun _ => HSd.out) (Or.inl ⟨by rfl, ?_⟩) ?_ ?_
  rotate_left 2
  ·intro w_
   go_simp
   try with_reducible rfl
  ·simp only [Act.put, List.setIfInBounds_toArray, List.set_cons_zero, List.set_cons_succ, i64_w, i32_w]
   rfl
  refine hi_take 5 (some 43) (v := ?_) (L' := #[true, true, true, false, true, true, false, false, false]) (a' := ?_) rfl rfl rfl (by kernel_rfl) (fun _ _ _ h => h) (fun _ => rfl) HSd.out (Or.inl ⟨by rfl, ?_⟩) ?_ ?_
  rotate_left 2
  ·intro w_ hw_
   obtain ⟨k0, k1, k2, k3⟩ := cells4 (hw_)
   go_simp
   try with_reducible rfl
  ·simp only [Act.put, List.setIfInBounds_toArray, List.set_cons_zero, List.set_cons_succ, i64_w, i32_w]
   rfl
  refine hi_pure 6 (some 44) (v := ?_) (L' := #[true, true, true, false, true, true, true, false, false]) (a' := ?_) rfl rfl rfl (by kernel_rfl) (fun _ _ _ h => h) (fun _ => rfl) (fun _ => HSd.out) (Or.inl ⟨by rfl, ?_⟩) ?_ ?_
  rotate_left 2
  ·intro w_
   go_simp
   try with_reducible rfl
  ·simp only [Act.put, List.setIfInBounds_toArray, List.set_cons_zero, List.set_cons_succ, i64_w, i32_w]
   rfl
  refine hi_one 3 (L' := #[true, true, true, true, true, true, true, false, false]) rfl (by kernel_rfl) rfl (fun K hK => ?_)
  go_simp
  gi_wp2_with (refine ⟨trivial, ?_⟩; gi_at_call 53; refine (callsIn_wide.2 HC.out).mono ?_; rintro e W3 ⟨rfl, hb_⟩)
  have HBd3 := Aside0.mk (below_step (HBB.out ▸ HBd2.out) hb_)
  have HSd3 := Aside0.mk ((hb_.block b Hbl.out).trans HSd.out)
  clear hb_
  refine hK.out _ _ (fun _ => HSd3.out) ?_
  clear hK K HC
  refine hi_pure 7 (some 45) (v := ?_) (L' := #[true, true, true, true, true, true, true, true, false]) (a' := ?_) rfl rfl rfl (by kernel_rfl) (fun _ _ _ h => h) (fun _ => rfl) (fun _ => HSd3.out) (Or.inl ⟨by rfl, ?_⟩) ?_ ?_
  rotate_left 2
  ·intro w_
   go_simp
   try with_reducible rfl
  ·simp only [Act.put, List.setIfInBounds_toArray, List.set_cons_zero, List.set_cons_succ, i64_w, i32_w]
   rfl
  refine hi_pure 8 (some 4) (v := ?_) (L' := #[true, true, true, true, true, true, true, true, true]) (a' := ?_) rfl rfl rfl (by kernel_rfl) (fun _ _ _ h => h) (fun _ => rfl) (fun _ => HSd3.out) (Or.inl ⟨by rfl, ?_⟩) ?_ ?_
  rotate_left 2
  ·intro w_
   go_simp
   try with_reducible rfl
  ·simp only [Act.put, List.setIfInBounds_toArray, List.set_cons_zero, List.set_cons_succ, i64_w, i32_w]
   rfl
  refine hi_done (by kernel_rfl) ?_ _
  gi_wp2
  refine bodyPost_ret (results_tmp rfl _ _ _) rfl ?_
  exact ⟨by cases q <;> rfl, HBd3.out⟩
 ·gi_wp2_with fail
  have hbb := below_alloc (below_alloc (Below.refl _ w) (.cells #[.int .i64 7, .string t1, .string t2, .slice A n c] 35)) (.cells #[.string line] 9)
  have HBd : Aside0 (Below w.heap.size w ((w.alloc (.cells #[.int .i64 7, .string t1, .string t2, .slice A n c] 35)).alloc (.cells #[.string line] 9)).drew) := ⟨pw_below_drewN hbb 1⟩
  have HSd : Aside0 (((w.alloc (.cells #[.int .i64 7, .string t1, .string t2, .slice A n c] 35)).alloc (.cells #[.string line] 9)).drew.heap[w.heap.size]? = some (.cells #[.int .i64 7, .string t1, .string t2, .slice A n c] 35 (0, 0))) := ⟨(boxes w _ _).trans (World.alloc_heap_new w _)⟩
  have hL0 : ((w.alloc (.cells #[.int .i64 7, .string t1, .string t2, .slice A n c] 35)).alloc (.cells #[.string line] 9)).heap[w.heap.size + 1]? = some (.cells #[.string line] 9 (0, 0)) := by have := World.alloc_heap_new (w.alloc (.cells #[.int .i64 7, .string t1, .string t2, .slice A n c] 35)) (.cells #[.string line] 9); simpa using this
  have HLd : Aside0 (((w.alloc (.cells #[.int .i64 7, .string t1, .string t2, .slice A n c] 35)).alloc (.cells #[.string line] 9)).drew.heap[w.heap.size + 1]? = some (.cells #[.string line] 9 (0, 0))) := ⟨hL0⟩
  clear hL0
  clear hbb
  obtain ⟨V, hV⟩ : ∃ V, V = ((w.alloc (.cells #[.int .i64 7, .string t1, .string t2, .slice A n c] 35)).alloc (.cells #[.string line] 9)) := ⟨_, rfl⟩
  rw [← hV] at HBd HSd HLd ⊢
  have HC := HH _ HBd.out HLd.out
  clear HH HLd hV
  have Hbl : Aside0 (w.heap.size < V.drew.heap.size) := ⟨(Array.getElem?_eq_some_iff.1 HSd.out).1⟩
  have hfo : (Tryz.prog).follows .mixedOrders = true := by kernel_rfl
  obtain ⟨b, hb⟩ : ∃ b, b = w.heap.size := ⟨_, rfl⟩
  obtain ⟨bl, hbl⟩ : ∃ bl, bl = w.heap.size + 1 := ⟨_, rfl⟩
  have HBd2 : Aside0 (Below b w V.drew) := ⟨hb ▸ HBd.out⟩
  rw [← hbl] at HC ⊢
  rw [← hb] at HSd Hbl ⊢
  have HBB := Aside0.mk hb
  clear HBd hbl hb
  refine hi_start 9 (fun W_ => W_.heap[b]? = some (.cells #[.int .i64 7, .string t1, .string t2, .slice A n c] 35 (0, 0))) hfo ?_
  refine hi_pure 0 (some 38) (v := ?_) (L' := #[true, false, false, false, false, false, false, false, false]) (a' := ?_) rfl rfl rfl (by kernel_rfl) (fun _ _ _ h => h) (fun _ => rfl) (fun _ => HSd.out) (Or.inl ⟨by rfl, ?_⟩) ?_ ?_
  rotate_left 2
  ·intro w_
   go_simp
   try with_reducible rfl
  ·simp only [Act.put, List.setIfInBounds_toArray, List.set_cons_zero, List.set_cons_succ, i64_w, i32_w]
   rfl
  refine hi_take 1 (some 39) (v := ?_) (L' := #[true, true, false, false, false, false, false, false, false]) (a' := ?_) rfl rfl rfl (by kernel_rfl) (fun _ _ _ h => h) (fun _ => rfl) HSd.out (Or.inl ⟨by rfl, ?_⟩) ?_ ?_
  rotate_left 2
  ·intro w_ hw_
   obtain ⟨k0, k1, k2, k3⟩ := cells4 (hw_)
   go_simp
   try with_reducible rfl
  ·simp only [Act.put, List.setIfInBounds_toArray, List.set_cons_zero, List.set_cons_succ, i64_w, i32_w]
   rfl
  refine hi_pure 2 (some 40) (v := ?_) (L' := #[true, true, true, false, false, false, false, false, false]) (a' := ?_) rfl rfl rfl (by kernel_rfl) (fun _ _ _ h => h) (fun _ => rfl) (fun _ => HSd.out) (Or.inl ⟨by rfl, ?_⟩) ?_ ?_
  rotate_left 2
  ·intro w_
   go_simp
   try with_reducible rfl
  ·simp only [Act.put, List.setIfInBounds_toArray, List.set_cons_zero, List.set_cons_succ, i64_w, i32_w]
   rfl
  refine hi_pure 4 (some 42) (v := ?_) (L' := #[true, true, true, false, true, false, false, false, false]) (a' := ?_) rfl rfl rfl (by kernel_rfl) (fun _ _ _ h => h) (fun _ => rfl) (fun _ => HSd.out) (Or.inl ⟨by rfl, ?_⟩) ?_ ?_
  rotate_left 2
  ·intro w_
   go_simp
   try with_reducible rfl
  ·simp only [Act.put, List.setIfInBounds_toArray, List.set_cons_zero, List.set_cons_succ, i64_w, i32_w]
   rfl
  refine hi_take 5 (some 43) (v := ?_) (L' := #[true, true, true, false, true, true, false, false, false]) (a' := ?_) rfl rfl rfl (by kernel_rfl) (fun _ _ _ h => h) (fun _ => rfl) HSd.out (Or.inl ⟨by rfl, ?_⟩) ?_ ?_
  rotate_left 2
  ·intro w_ hw_
   obtain ⟨k0, k1, k2, k3⟩ := cells4 (hw_)
   go_simp
   try with_reducible rfl
  ·simp only [Act.put, List.setIfInBounds_toArray, List.set_cons_zero, List.set_cons_succ, i64_w, i32_w]
   rfl
  refine hi_pure 6 (some 44) (v := ?_) (L' := #[true, true, true, false, true, true, true, false, false]) (a' := ?_) rfl rfl rfl (by kernel_rfl) (fun _ _ _ h => h) (fun _ => rfl) (fun _ => HSd.out) (Or.inl ⟨by rfl, ?_⟩) ?_ ?_
  rotate_left 2
  ·intro w_
   go_simp
   try with_reducible rfl
  ·simp only [Act.put, List.setIfInBounds_toArray, List.set_cons_zero, List.set_cons_succ, i64_w, i32_w]
   rfl
  refine hi_one 3 (L' := #[true, true, true, true, true, true, true, false, false]) rfl (by kernel_rfl) rfl (fun K hK => ?_)
  go_simp
  gi_wp2_with (refine ⟨trivial, ?_⟩; gi_at_call 53; refine (callsIn_wide.2 HC.out).mono ?_; rintro e W3 ⟨rfl, hb_⟩)
  have HBd3 := Aside0.mk (below_step (HBB.out ▸ HBd2.out) hb_)
  have HSd3 := Aside0.mk ((hb_.block b Hbl.out).trans HSd.out)
  clear hb_
  refine hK.out _ _ (fun _ => HSd3.out) ?_
  clear hK K HC
  refine hi_pure 7 (some 45) (v := ?_) (L' := #[true, true, true, true, true, true, true, true, false]) (a' := ?_) rfl rfl rfl (by kernel_rfl) (fun _ _ _ h => h) (fun _ => rfl) (fun _ => HSd3.out) (Or.inl ⟨by rfl, ?_⟩) ?_ ?_
  rotate_left 2
  ·intro w_
   go_simp
   try with_reducible rfl
  ·simp only [Act.put, List.setIfInBounds_toArray, List.set_cons_zero, List.set_cons_succ, i64_w, i32_w]
   rfl
  refine hi_pure 8 (some 4) (v := ?_) (L' := #[true, true, true, true, true, true, true, true, true]) (a' := ?_) rfl rfl rfl (by kernel_rfl) (fun _ _ _ h => h) (fun _ => rfl) (fun _ => HSd3.out) (Or.inl ⟨by rfl, ?_⟩) ?_ ?_
  rotate_left 2
  ·intro w_
   go_simp
   try with_reducible rfl
  ·simp only [Act.put, List.setIfInBounds_toArray, List.set_cons_zero, List.set_cons_succ, i64_w, i32_w]
   rfl
  refine hi_done (by kernel_rfl) ?_ _
  gi_wp2
  refine bodyPost_ret (results_tmp rfl _ _ _) rfl ?_
  exact ⟨by cases q <;> rfl, HBd3.out⟩
theorem line_step {line : ByteArray} {W : World} (hC : Con W) (hS : Spl W) (hl : line.size ≤ 2000) {d : Nat} (ih : LineAt line W d) : LineAt line W (d + 1) := by
 intro T A c w hT hb hk hc
 obtain ⟨t0, t1, t2, t3⟩ := T
 obtain ⟨h1, h2, h3, -, h4⟩ := hT
 unfold fv lineV
 dsimp only at h1 h2 h3 h4 hk hc ⊢
 by_cases e1 : t0 = 1
 ·rw [if_pos e1]; subst e1; exact line_at1 t1 t2 line _ w
 rw [if_neg e1]
 by_cases e3 : t0 = 3
 ·rw [if_pos e3]; subst e3; exact line_at3 t1 t2 line A _ c (by omega) w
 rw [if_neg e3]
 by_cases e4 : t0 = 4
 ·rw [if_pos e4]; subst e4; exact line_at4 hC hb t1 t2 line A _ c hl
 rw [if_neg e4]
 by_cases e5 : t0 = 5
 ·rw [if_pos e5]; subst e5; exact line_at5 hS hb t1 t2 line A _ c hl h1 h2
 rw [if_neg e5]
 by_cases e6 : t0 = 6 ∨ t0 = 7
 ·rw [if_pos e6]; exact line_at67 ih t0 e6 t1 t2 t3 A c w hb h4 (by omega) hk hc
 rw [if_neg e6]
 by_cases e8 : t0 = 8
 ·rw [if_pos e8]; subst e8; exact line_at8 ih t1 t2 t3 A c w hb h4 (by omega) hk hc
 rw [if_neg e8]
 exact line_else t0 ⟨e1, e3, e4, e5, fun h => e6 (.inl h), fun h => e6 (.inr h), e8⟩ t1 t2 line _ w
theorem line_all {line : ByteArray} {W : World} (hC : Con W) (hS : Spl W) (hl : line.size ≤ 2000) : ∀ d, LineAt line W d
 | 0 => fun T A c w h => h.elim
 | d + 1 => line_step hC hS hl (line_all hC hS hl d)
end Go.Proofs.YtpleiklodomgiaaGreatDoor.F
end
section
namespace Go.Proofs.YtpleiklodomgiaaGreatDoor.F
open Go.RowKit Go.Shelf Go.Proofs.YtpleiklodomgiaaGreatDoor.Hi Go.Proofs.YtpleiklodomgiaaGreatDoorW.PrintWords Go.Proofs.YtpleiklodomgiaaGreatDoorW.PrintLast Go.Proofs.YtpleiklodomgiaaGreatDoorW.PrintMore Go.Proofs.YtpleiklodomgiaaGreatDoor.B Go.Proofs.YtpleiklodomgiaaGreatDoor.W Go.Proofs.YtpleiklodomgiaaGreatDoor.M Go.Proofs.YtpleiklodomgiaaGreatDoor.PModelIs
def IsT (d : Nat) (w : World) (T : S35) (A : Option Addr) (c : Nat) : Prop := OkT d T ∧ Kd.C k35 w A T.f3.length T.f3 ∧ T.f3.length ≤ c
theorem IsT.below {d : Nat} {w w' : World} {T : S35} {A : Option Addr} {c : Nat} (h : IsT d w T A c) (hb : Below w.heap.size w w') : IsT d w' T A c := ⟨h.1, Kd.C_below h.2.1 hb, h.2.2⟩
end Go.Proofs.YtpleiklodomgiaaGreatDoor.F
end
section
namespace Go.Proofs.YtpleiklodomgiaaGreatDoor.C
end Go.Proofs.YtpleiklodomgiaaGreatDoor.C
namespace Go.Proofs.YtpleiklodomgiaaGreatDoor.F
end Go.Proofs.YtpleiklodomgiaaGreatDoor.F
namespace Go.Proofs.YtpleiklodomgiaaGreatDoor.Q
open Go.RowKit Go.Proofs.YtpleiklodomgiaaGreatDoorW.PrintWords Go.Proofs.YtpleiklodomgiaaGreatDoorW.PrintLast Go.Proofs.YtpleiklodomgiaaGreatDoorW.PrintMore Go.Proofs.YtpleiklodomgiaaGreatDoor.B Go.Proofs.YtpleiklodomgiaaGreatDoor.W Go.Proofs.YtpleiklodomgiaaGreatDoor.F Go.Proofs.YtpleiklodomgiaaGreatDoor.C Go.Proofs.YtpleiklodomgiaaGreatDoor.PModelIs
abbrev Mt := S61
def mtCells (x : Mt) : List Value := [.string x.f0, .bool x.f1, .string x.f2]
def matC (xs : List Mt) : List Value := xs.flatMap mtCells
theorem matC_len : ∀ xs : List Mt, (matC xs).length = xs.length * 3
 | [] => rfl
 | x :: xs => by
  have ih := matC_len xs
  unfold matC at *
  rw [List.flatMap_cons, List.length_append, ih, List.length_cons]
  show 3 + _ = _
  omega
theorem matC_app (xs ys : List Mt) : matC (xs ++ ys) = matC xs ++ matC ys := by unfold matC; rw [List.flatMap_append]
theorem matC_cons (x : Mt) (xs : List Mt) : matC (x :: xs) = mtCells x ++ matC xs := by unfold matC; rw [List.flatMap_cons]
theorem matC_get : ∀ (xs : List Mt) (i r : Nat) (x : Mt), r < 3 → xs[i]? = some x → (matC xs)[i * 3 + r]? = (mtCells x)[r]?
 | [], _, _, _, _, h => by simp at h
 | y :: xs, 0, r, x, hr, h => by
  simp only [List.getElem?_cons_zero, Option.some.injEq] at h
  subst h
  rw [matC_cons, List.getElem?_append_left (by show _ < 3; omega)]
  congr 1
  omega
 | y :: xs, i + 1, r, x, hr, h => by
  have ih := matC_get xs i r x hr (by simpa using h)
  rw [matC_cons, List.getElem?_append_right (by show 3 ≤ _; omega), show (i + 1) * 3 + r - (mtCells y).length = i * 3 + r by show (i + 1) * 3 + r - 3 = _; omega]
  exact ih
theorem matC_one (xs : List Mt) : ∀ u ∈ matC xs, u.oneCell' = true := by
 intro u hu
 unfold matC at hu
 obtain ⟨x, _, hx⟩ := List.mem_flatMap.1 hu
 unfold mtCells at hx
 simp only [List.mem_cons, List.not_mem_nil, or_false] at hx
 rcases hx with rfl | rfl | rfl <;> rfl
def OwnM (w : World) (base : Nat) (v : Value) (xs : List Mt) : Prop := w.ownsRow base 61 3 v xs.length (matC xs)
theorem OwnM.nil (w : World) (base : Nat) : OwnM w base (.slice none 0 0) [] := ⟨rfl, .inl ⟨rfl, rfl⟩⟩
theorem OwnM.below {w w' : World} {base : Nat} {v : Value} {xs : List Mt} (h : OwnM w base v xs) (hb : Below w.heap.size w w') : OwnM w' base v xs := by
 refine World.ownsRow.kept h (grown_of_below hb none) ?_
 cases h' : v.ownBlock with
 | none => exact .inl rfl
 | some k => exact .inr (by simp)
theorem OwnM.block_ne {w : World} {base : Nat} {v : Value} {xs : List Mt} (h : OwnM w base v xs) {g : Nat} {cs : Array Value} {t : TypeId} {fr : Nat × Nat} (hg : w.heap[g]? = some (.cells cs t fr)) (ht : t ≠ 61) : v.ownBlock ≠ some g := by
 rcases h.2 with ⟨rfl, h0⟩ | ⟨k, cap, cur, rfl, hb, hk, _⟩
 ·simp [Value.ownBlock]
 ·intro e
  simp only [Value.ownBlock, Option.some.injEq] at e
  subst e
  rw [hk] at hg
  injection hg with hg
  injection hg with _ h2 _
  exact ht h2.symm
theorem OwnM.keep {w w' : World} {base g : Nat} {v : Value} {xs : List Mt} (h : OwnM w base v xs) (hk : KeepBut w w' g none) (hg : v.ownBlock ≠ some g) : OwnM w' base v xs := by
 refine KeepBut.own hk h hg ?_
 cases h' : v.ownBlock with
 | none => exact .inl rfl
 | some k => exact .inr (by simp)
theorem OwnM.row {w : World} {base : Nat} {v : Value} {xs : List Mt} (h : OwnM w base v xs) : ∃ A c, v = .slice A xs.length c ∧ xs.length ≤ c ∧ Kd.C k61 w A xs.length xs := by
 rcases h.2 with ⟨rfl, h0⟩ | ⟨g, cap, cur, rfl, hb, hg, h1, h2, h3, h4⟩
 ·have := List.eq_nil_of_length_eq_zero h0
  subst this
  exact ⟨none, 0, rfl, Nat.le_refl _, rfl, Nat.zero_le _, fun h => absurd h (Nat.lt_irrefl 0)⟩
 ·refine ⟨_, cap, rfl, h1, rfl, Nat.le_trans h1 (Nat.le_trans h2 (by decide)), fun _ => ⟨_, rfl, fun j x hx => ⟨_, rfl, k61_mk w x, fun i u hu => ?_⟩⟩⟩
  have hi : i < 3 := (List.getElem?_eq_some_iff.1 hu).1
  refine h.cells (g := g) rfl _ u ?_
  show (matC xs)[j * 3 + i]? = _
  rw [matC_get xs j i x hi hx]
  exact hu
theorem infoM3 : ∃ i0, Tryz.prog.info? 61 = some i0 ∧ i0.zero = some (.agg #[.string ⟨#[]⟩, .bool false, .string ⟨#[]⟩]) ∧ i0.size = 3 ∧ i0.bytes = 40 := by
 have h : (Tryz.prog.info? 61).map (fun i => (i.zero, i.size, i.bytes)) = some (some (.agg #[.string ⟨#[]⟩, .bool false, .string ⟨#[]⟩]), 3, 40) := by kernel_rfl
 obtain ⟨i0, hi, hp⟩ := Option.map_eq_some_iff.1 h
 have hp2 := (Prod.mk.injEq .. ▸ hp).2
 exact ⟨i0, hi, (Prod.mk.injEq .. ▸ hp).1, (Prod.mk.injEq .. ▸ hp2).1, (Prod.mk.injEq .. ▸ hp2).2⟩
theorem app_mat (base : Nat) (w : World) (v : Value) (xs : List Mt) (z : Nat) (y : Mt) (h : OwnM w base v xs) (hz : w.heap[z]? = some (.cells (mtCells y).toArray 61 (0, 0))) (hb : base ≤ w.heap.size) (hl : xs.length ≤ 1000) :
  ∃ v' w', (∀ ty, (Builtin.append_ #[32, 32] ty #[v, .slice (some ⟨z, 0, none⟩) 1 1]).run Tryz.prog w = .ok v' w') ∧ OwnM w' base v' (xs ++ [y]) ∧ w.grownBy w' v.ownBlock := by
 obtain ⟨i0, hi, hz0, hz1, hz2⟩ := infoM3
 have ht : ∀ t1 t2 (y : Value), Builtin.append_ #[32, 32] t1 #[v, y] = Builtin.append_ #[32, 32] t2 #[v, y] := fun _ _ _ => rfl
 have hl1 : ([y] : List Mt).length = 1 := rfl
 obtain ⟨v', w', h1, h2, h3, h4, h5⟩ := run_append_own_at (P := Tryz.prog) w base 32 0 61 i0 _ 3 40 Tryz.underlying32 hi hz0 hz1 hz2 rfl (by omega) v xs.length (matC xs) h ⟨z, 0, none⟩ 1 1 (matC [y]) (matC_len [y]) (fun j u hj => by
   rw [add_at, Nat.zero_add, blk_cell hz]
   simpa [matC] using hj) (matC_one [y]) (by unfold maxLen; omega) (by omega) hb
 refine ⟨v', w', fun ty => (by rw [ht ty 0]; exact h1), ?_, h3⟩
 unfold OwnM
 rw [matC_app, List.length_append]; exact h2
def Src (w0 V : World) (g : Nat) (L : List Int) : Prop := ∃ at_ : Int, 0 ≤ at_ ∧ at_ ≤ L.length ∧ IsS57 w0 V g L at_ ∧ Below w0.heap.size w0 V
theorem Src.base {w0 V : World} {g : Nat} {L : List Int} (h : Src w0 V g L) : Below w0.heap.size w0 V := by obtain ⟨_, _, _, _, h⟩ := h; exact h
theorem Src.below {w0 V V' : World} {g : Nat} {L : List Int} (h : Src w0 V g L) (hb : Below V.heap.size V V') : Src w0 V' g L := by
 obtain ⟨a, h0, h1, h2, h3⟩ := h
 exact ⟨a, h0, h1, h2.below hb, below_step h3 hb⟩
theorem Src.ne {w0 V : World} {g : Nat} {L : List Int} (h : Src w0 V g L) {a : Nat} {cs : Array Value} {t : TypeId} {fr : Nat × Nat} (hb2 : V.heap[a]? = some (.cells cs t fr)) (ht : t ≠ 57) : a ≠ g := by
 obtain ⟨_, _, _, h2, _⟩ := h
 exact fun e => h2.ne_blk hb2 ht e.symm
theorem Src.own_ne {w0 V : World} {g : Nat} {L : List Int} (h : Src w0 V g L) {base : Nat} {v : Value} {xs : List Mt} (ho : OwnM V base v xs) : v.ownBlock ≠ some g := by
 obtain ⟨_, _, _, ⟨A0, c0, hb, _⟩, _⟩ := h
 exact ho.block_ne hb (by decide)
theorem Src.far {w0 V : World} {g : Nat} {L : List Int} (h : Src w0 V g L) {p : Addr} (hne : g ≠ p.block) (hp : w0.heap.size ≤ p.block) (u : Value) : Src w0 (V.setCell p u) g L := by
 obtain ⟨a, h0, h1, h2, h3⟩ := h
 exact ⟨a, h0, h1, h2.far hne u, h3.setCell hp u⟩
theorem Src.grown {w0 V V' : World} {g : Nat} {L : List Int} {row : Option Nat} (h : Src w0 V g L) (hg : V.grownBy V' row) (hne : some g ≠ row) (hr : ∀ k, row = some k → w0.heap.size ≤ k) : Src w0 V' g L := by
 obtain ⟨a, h0, h1, h2, h3⟩ := h
 exact ⟨a, h0, h1, h2.grown hg hne, h3.grown hg h3.size hr⟩
theorem next_q (L : List Int) (hL : L.length ≤ 300) (n : Int) (hn : 0 < n) (hn2 : n ≤ 100) (w0 V : World) (g : Nat) (h : Src w0 V g L) :
  Calls Tryz.prog 18 #[.pointer (some ⟨g, 0, none⟩), .int .i64 n] V fun e V' => ∃ r : Int, e = .returned (.int .i64 r) ∧ 0 ≤ r ∧ r < n ∧ Src w0 V' g L ∧ KeepBut V V' g none := by
 obtain ⟨a, h0, h1, h2, h3⟩ := h
 obtain ⟨r, a', hf, g2, g3, g4, g5⟩ := next_total L a n hL h0 h1 hn hn2
 refine (magpieref06_Source_Next.calls g L a n r a' w0 V h2 h3 hf).mono ?_
 rintro e V' ⟨rfl, hi, hb, hk⟩
 exact ⟨r, rfl, g2, g3, ⟨a', g4, g5, hi, hb⟩, hk⟩
theorem make_q (L : List Int) (hL : L.length ≤ 300) (d : Nat) (hd : d ≤ 4) (w0 V : World) (g : Nat) (h : Src w0 V g L) :
  Calls Tryz.prog 19 #[.pointer (some ⟨g, 0, none⟩), .int .i64 (d : Int)] V fun e V' => ∃ T A' c', e = .returned (fv T A' c') ∧ OkT (d + 1) T ∧
   Kd.N k35 35 V' V.heap.size (fun k => V.heap.size ≤ k) (.slice A' T.f3.length c') T.f3 ∧ Src w0 V' g L ∧ KeepBut V V' g none := by
 obtain ⟨a, h0, h1, h2, h3⟩ := h
 obtain ⟨r1, r2, r3, r4, r5, hf, hok, k0, k1⟩ := make_total L hL d (by omega) (d : Int) (Int.le_refl _) a h0 h1 (20 * (d + 1)) (Nat.le_refl _)
 refine (magpieref06_Source_Make.calls (20 * (d + 1)) g L a d r1 r2 r3 r4 r5 w0 V h2 h3 hf).mono ?_
 rintro e V' ⟨v3, rfl, hN, hi, hb, hk⟩
 obtain ⟨A', c', rfl⟩ := Kd.N_slice hN
 exact ⟨⟨r1, r2, r3, r4⟩, A', c', rfl, hok, hN, ⟨r5, k0, k1, hi, hb⟩, hk⟩
end Go.Proofs.YtpleiklodomgiaaGreatDoor.Q
end
section
namespace Go.Proofs.YtpleiklodomgiaaGreatDoor.Q
open Go.RowKit Go.Proofs.YtpleiklodomgiaaGreatDoorW.PrintWords Go.Proofs.YtpleiklodomgiaaGreatDoorW.PrintLast Go.Proofs.YtpleiklodomgiaaGreatDoorW.PrintMore Go.Proofs.YtpleiklodomgiaaGreatDoor.B Go.Proofs.YtpleiklodomgiaaGreatDoor.W Go.Proofs.YtpleiklodomgiaaGreatDoor.F Go.Proofs.YtpleiklodomgiaaGreatDoor.C Go.Proofs.YtpleiklodomgiaaGreatDoor.PModelIs
def qCells (fr till : Int) (mv : Value) (op : Int) (nm tx : ByteArray) (kv : Value) (desc : Bool) (lim : Int) (page : ByteArray) : Array Value := #[.int .i64 fr, .int .i64 till, mv, .int .i64 op, .string nm, .string tx, kv, .bool desc, .int .i64 lim, .string page]
def qZero : Array Value := qCells 0 0 (.slice none 0 0) 0 ⟨#[]⟩ ⟨#[]⟩ (.slice none 0 0) false 0 ⟨#[]⟩
structure QW (w0 : World) (bR bS bQ : Nat) (L : List Int) (cs : Array Value) (mv : Value) (ms : List Mt) (V : World) : Prop where
 src : Src w0 V bS L
 res : V.heap[bR]? = some (.cells qZero 37 (0, 0))
 q : V.heap[bQ]? = some (.cells cs 37 (0, 0))
 own : OwnM V w0.heap.size mv ms
 ne : bR ≠ bQ
 le : w0.heap.size ≤ bQ
variable {w0 V V' : World} {bR bS bQ : Nat} {L : List Int} {cs : Array Value} {mv : Value} {ms : List Mt}
theorem QW.below (h : QW w0 bR bS bQ L cs mv ms V) (hb : Below V.heap.size V V') : QW w0 bR bS bQ L cs mv ms V' := ⟨h.src.below hb, heap_below hb h.res, heap_below hb h.q, h.own.below hb, h.ne, h.le⟩
theorem QW.next (h : QW w0 bR bS bQ L cs mv ms V) (hs : Src w0 V' bS L) (hk : KeepBut V V' bS none) : QW w0 bR bS bQ L cs mv ms V' :=
 ⟨hs, hk.blk h.res (h.src.ne h.res (by decide)) (by simp), hk.blk h.q (h.src.ne h.q (by decide)) (by simp), h.own.keep hk (h.src.own_ne h.own), h.ne, h.le⟩
theorem grown_setQ (w : World) (g i : Nat) (u : Value) : w.grownBy (w.setCell ⟨g, i, none⟩ u) (some g) :=
 ⟨rfl, rfl, rfl, by simp [World.setCell], fun k hk hr => Below.heap_setCell w ⟨g, i, none⟩ u k (fun e => hr (by rw [e]))⟩
theorem OwnM.far {w : World} {base : Nat} {v : Value} {xs : List Mt} (h : OwnM w base v xs) (g j : Nat) (x : Value) (hg : v.ownBlock ≠ some g) : OwnM (w.setCell ⟨g, j, none⟩ x) base v xs :=
 World.ownsRow.kept h (grown_setQ w g j x) (.inr hg)
theorem QW.set (h : QW w0 bR bS bQ L cs mv ms V) (i : Nat) (u : Value) : QW w0 bR bS bQ L (cs.setIfInBounds i u) mv ms (V.setCell ⟨bQ, i, none⟩ u) :=
 ⟨h.src.far (fun e => (h.src.ne h.q (by decide)) e.symm) h.le u, blk_far h.res h.ne u, blk_set h.q i u, h.own.far _ _ _ (h.own.block_ne h.q (by decide)), h.ne, h.le⟩
theorem QW.grown {v' : Value} {ms' : List Mt} (h : QW w0 bR bS bQ L cs mv ms V) (hg : V.grownBy V' mv.ownBlock) (ho : OwnM V' w0.heap.size v' ms') : QW w0 bR bS bQ L cs v' ms' V' :=
 ⟨h.src.grown hg (fun e => (h.src.own_ne h.own) e.symm) (fun k hk => (World.ownsRow.lt h.own k hk).1), blk_grown h.res hg (fun e => (h.own.block_ne h.res (by decide)) e.symm), blk_grown h.q hg (fun e => (h.own.block_ne h.q (by decide)) e.symm), ho, h.ne, h.le⟩
theorem QW.drew (h : QW w0 bR bS bQ L cs mv ms V) : QW w0 bR bS bQ L cs mv ms V.drew := h.below (pw_below_drewN (Below.refl _ _) 1)
theorem append_runQ {ρ : Operand → Value} {dst : Option Tmp} {s x : Operand} {t ty : TypeId} {pos : String} {after : Array Edge} {guard : Option (Nat × Bool)} {v y v1 : Value} {W w1 : World} (hrun : ∀ ty, (Builtin.append_ #[t, t] ty #[v, y]).run Tryz.prog W = .ok v1 w1) (hs : ρ s = v) (hx : ρ x = y) :
  (execOp ρ { dst, op := .call { callee := .builtin .append, args := #[s, x], argTypes := #[t, t] }, type := ty, pos, after, guard }).run Tryz.prog W = .ok (.value v1) w1 := by
 unfold execOp
 simp only [resolve, invoke, builtin, Sem.run_bind, Sem.run_pure, Result.andThen_ok, List.map_toArray, List.map_cons, List.map_nil, hs, hx, hrun]
theorem pick3 {V : World} {x : Nat} {a b c : ByteArray} {t : TypeId} (h : V.heap[x]? = some (.cells #[.string a, .string b, .string c] t (0, 0))) (ha : a.size ≤ 100) (hb : b.size ≤ 100) (hc : c.size ≤ 100) (r : Int) (h0 : 0 ≤ r) (h1 : r < 3) : ∃ s : ByteArray, s.size ≤ 100 ∧ V.cell? ⟨x, r.toNat, none⟩ = some (.string s) := by
 rcases (by omega : r = 0 ∨ r = 1 ∨ r = 2) with rfl | rfl | rfl
 ·exact ⟨a, ha, by rw [blk_cell h]; rfl⟩
 ·exact ⟨b, hb, by rw [blk_cell h]; rfl⟩
 ·exact ⟨c, hc, by rw [blk_cell h]; rfl⟩
theorem pick4 {V : World} {x : Nat} {a b c d : ByteArray} {t : TypeId} (h : V.heap[x]? = some (.cells #[.string a, .string b, .string c, .string d] t (0, 0))) (ha : a.size ≤ 100) (hb : b.size ≤ 100) (hc : c.size ≤ 100) (hd : d.size ≤ 100) (r : Int) (h0 : 0 ≤ r) (h1 : r < 4) : ∃ s : ByteArray, s.size ≤ 100 ∧ V.cell? ⟨x, r.toNat, none⟩ = some (.string s) := by
 rcases (by omega : r = 0 ∨ r = 1 ∨ r = 2 ∨ r = 3) with rfl | rfl | rfl | rfl
 ·exact ⟨a, ha, by rw [blk_cell h]; rfl⟩
 ·exact ⟨b, hb, by rw [blk_cell h]; rfl⟩
 ·exact ⟨c, hc, by rw [blk_cell h]; rfl⟩
 ·exact ⟨d, hd, by rw [blk_cell h]; rfl⟩
structure RF (w0 : World) (bR bS bQ : Nat) (L : List Int) (cs : Array Value) (mv : Value) (ms : List Mt) (b : Nat → Bool) (V : World) (x y z : Nat) (r4 r12 : Int) (m36 : Value) (s37 : ByteArray) (b40 : Bool) (m44 : Value) (s45 : ByteArray) (m46 w17 : Value) : Prop where
 qw : b 17 = false → QW w0 bR bS bQ L cs mv ms V
 qw2 : b 17 = true → b 19 = false → ∃ m : Mt, m.f0.size ≤ 100 ∧ m.f2.size ≤ 100 ∧ QW w0 bR bS bQ L cs w17 (ms ++ [m]) V
 qw3 : b 19 = true → ∃ m : Mt, m.f0.size ≤ 100 ∧ m.f2.size ≤ 100 ∧ QW w0 bR bS bQ L (cs.setIfInBounds 2 w17) w17 (ms ++ [m]) V
 hx : b 2 = true → b 17 = false → V.heap[x]? = some (.cells #[.string ⟨#[97, 112, 112]⟩, .string ⟨#[101, 110, 118]⟩, .string ⟨#[122, 111, 110, 101]⟩] 9 (0, 0))
 hy : b 10 = true → b 17 = false → V.heap[y]? = some (.cells #[.string ⟨#[97]⟩, .string ⟨#[98]⟩, .string ⟨#[]⟩, .string ⟨#[120, 32, 121]⟩] 9 (0, 0))
 hz : b 16 = true → b 17 = false → V.heap[z]? = some (.cells #[.string s37, .bool b40, .string s45] 61 (0, 0))
 h4 : b 4 = true → 0 ≤ r4 ∧ r4 < 3
 h5 : b 5 = true → m36 = .pointer (some ((⟨x, 0, none⟩ : Addr).add r4.toNat))
 h6 : b 6 = true → s37.size ≤ 100
 h12 : b 12 = true → 0 ≤ r12 ∧ r12 < 4
 h13 : b 13 = true → m44 = .pointer (some ((⟨y, 0, none⟩ : Addr).add r12.toNat))
 h14 : b 14 = true → s45.size ≤ 100
 h15 : b 15 = true → m46 = .agg #[.string s37, .bool b40, .string s45]
section
variable {b : Nat → Bool} {x y z : Nat} {r4 r12 : Int} {m36 m44 m46 w17 : Value} {s37 s45 : ByteArray} {b40 : Bool}
theorem RF.below (F : RF w0 bR bS bQ L cs mv ms b V x y z r4 r12 m36 s37 b40 m44 s45 m46 w17) (h17 : b 17 = false) (h19 : b 19 = false) (hb : Below V.heap.size V V') : RF w0 bR bS bQ L cs mv ms b V' x y z r4 r12 m36 s37 b40 m44 s45 m46 w17 :=
 {F with qw := fun h => (F.qw h).below hb, qw2 := fun h => absurd (h17.symm.trans h) (by decide), qw3 := fun h => absurd (h19.symm.trans h) (by decide), hx := fun h k => heap_below hb (F.hx h k), hy := fun h k => heap_below hb (F.hy h k), hz := fun h k => heap_below hb (F.hz h k) }
theorem RF.next (F : RF w0 bR bS bQ L cs mv ms b V x y z r4 r12 m36 s37 b40 m44 s45 m46 w17) (h17 : b 17 = false) (h19 : b 19 = false) (hs : Src w0 V' bS L) (hk : KeepBut V V' bS none) : RF w0 bR bS bQ L cs mv ms b V' x y z r4 r12 m36 s37 b40 m44 s45 m46 w17 :=
 {F with
  qw := fun h => (F.qw h).next hs hk, qw2 := fun h => absurd (h17.symm.trans h) (by decide), qw3 := fun h => absurd (h19.symm.trans h) (by decide)
  hx := fun h k => hk.blk (F.hx h k) ((F.qw h17).src.ne (F.hx h k) (by decide)) (by simp)
  hy := fun h k => hk.blk (F.hy h k) ((F.qw h17).src.ne (F.hy h k) (by decide)) (by simp)
  hz := fun h k => hk.blk (F.hz h k) ((F.qw h17).src.ne (F.hz h k) (by decide)) (by simp) }
end
end Go.Proofs.YtpleiklodomgiaaGreatDoor.Q
end
section
namespace Go.Proofs.YtpleiklodomgiaaGreatDoor.Q
open Go.RowKit Go.Shelf Go.Proofs.YtpleiklodomgiaaGreatDoorW.PrintWords Go.Proofs.YtpleiklodomgiaaGreatDoorW.PrintLast Go.Proofs.YtpleiklodomgiaaGreatDoorW.PrintMore Go.Proofs.YtpleiklodomgiaaGreatDoor.B Go.Proofs.YtpleiklodomgiaaGreatDoor.W Go.Proofs.YtpleiklodomgiaaGreatDoor.F Go.Proofs.YtpleiklodomgiaaGreatDoor.C Go.Proofs.YtpleiklodomgiaaGreatDoor.PModelIs
def mtv (m : Mt) : Value := .agg #[.string m.f0, .bool m.f1, .string m.f2]
def PM (g : Nat) (lb : Array Value) (p : Mt → Bool) (xs : List Mt) (w : World) : Prop :=
 ∀ (W : World) (x : Mt), x ∈ xs → Below w.heap.size w W → Calls Tryz.prog g (#[mtv x] ++ lb) W fun e w' => e = .returned (.bool (p x)) ∧ Below W.heap.size W w'
theorem mem_m {xs : List Mt} {i : Nat} (h : i < xs.length) : rd_T61 xs (i : Int) ∈ xs := by
 unfold rd_T61
 rw [Int.toNat_natCast, List.getD_eq_getElem?_getD, List.getElem?_eq_getElem h]
 exact List.getElem_mem h
theorem at_m {xs : List Mt} {j : Nat} (h : j < xs.length) : rd_T61 xs (j : Int) = xs[j] := by
 unfold rd_T61
 rw [Int.toNat_natCast, List.getD_eq_getElem?_getD, List.getElem?_eq_getElem h]
 rfl
set_option maxRecDepth 20000 in
set_option maxHeartbeats 2000000 in
theorem indexM (g : Nat) (lb : Array Value) (eg : ∀ args w, (callFunc g args).run Tryz.prog w = .ok (.enter g args) w) (p : Mt → Bool) (xs : List Mt) (A : Option Addr) (c : Nat) (w : World) (hp : PM g lb p xs w) (hx : Kd.C k61 w A xs.length xs) (hm : xs.length ≤ 1000) :
  Calls Tryz.prog 63 #[.slice A xs.length c, .func (.func g) #[] lb] w fun e w' => ∃ r : Int, e = .returned (.int .i64 r) ∧ (decide (0 ≤ r) = xs.any p) ∧ Below w.heap.size w w' := by
 have HP := Aside0.mk hp
 have HX := Aside0.mk hx
 have HM := Aside0.mk hm
 clear hp hx hm
 go_enter Tryz.func63, Tryz.ntmps63
 go_wp2
 go_loopg [5, 8] xs.length (fun gg _ s8 wr => ∃ kk : Nat, kk ≤ xs.length ∧ xs.length - kk ≤ gg ∧ s8 = .int .i64 kk ∧ Aside0 (Below w.heap.size w wr) ∧ Aside0 (∀ j, j < kk → p (rd_T61 xs (j : Int)) = false))
 case atStart => exact ⟨0, Nat.zero_le _, by omega, rfl, ⟨Below.refl _ w⟩, ⟨fun j hj => absurd hj (Nat.not_lt_zero _)⟩⟩
 case round =>
  obtain ⟨kk, hkk, hg, rfl, BW, AL⟩ := hrel
  by_cases hlt : kk < xs.length
  ·have hltz : (kk : Int) < (xs.length : Int) := by omega
   have hx := Kd.C_below HX.out BW.out
   obtain ⟨ad, hA, k0, k1, k2⟩ := at_T61 hx (kk : Int) (by omega) hltz
   have hcall := HP.out wr _ (mem_m hlt) BW.out
   clear hx
   subst hA
   rw [Int.toNat_natCast] at k0 k1 k2
   unfold mtv at hcall
   generalize hy : rd_T61 xs (kk : Int) = y at k0 k1 k2 hcall
   have HY := Aside0.mk hy
   clear hy
   have HN := Aside0.mk hlt
   have d1 : decide ((kk : Int) < (xs.length : Int)) = true := decide_eq_true hltz
   have d2 : decide (0 ≤ (kk : Int)) = true := decide_eq_true (by omega)
   have Hg := Aside0.mk hg
   have Hkk := Aside0.mk hkk
   clear hg hkk
   obtain ⟨y0, y1, y2⟩ := y
   dsimp only at k0 k1 k2 hcall
   cases hq : p ⟨y0, y1, y2⟩ with
   | true =>
    rw [hq] at hcall
    have HQ := Aside0.mk hq
    clear hq
    go_wp2_with (go_at_fn g; refine hcall.mono ?_; rintro e w' ⟨rfl, hb'⟩; have HB' := Aside0.mk hb'; clear hb')
    go_ret
    refine ⟨_, rfl, ?_, below_step BW.out HB'.out⟩
    rw [List.any_eq_true.2 ⟨_, mem_m HN.out, by rw [HY.out]; exact HQ.out⟩]
    exact d2
   | false =>
    rw [hq] at hcall
    have HQ := Aside0.mk hq
    clear hq
    go_wp2_with (go_at_fn g; refine hcall.mono ?_; rintro e w' ⟨rfl, hb'⟩; have HB' := Aside0.mk hb'; clear hb')
    go_roundg (xs.length - (kk + 1))
    case measure => have := Hg.out; omega
    case rel =>
     have := HM.out
     refine ⟨kk + 1, by omega, by omega, ?_, ⟨below_step BW.out HB'.out⟩, ⟨fun j hj => ?_⟩⟩
     ·rw [W.w64_in _ (by omega)]; rfl
     ·by_cases e : j = kk
      ·subst e
       rw [HY.out]; exact HQ.out
      ·exact AL.out j (by omega)
  ·have hltz : ¬ (kk : Int) < (xs.length : Int) := by omega
   have d1 : decide (kk < xs.length) = false := decide_eq_false hlt
   have he : kk = xs.length := by omega
   have AL2 := Aside0.mk (fun j (hj : j < xs.length) => AL.out j (by omega))
   clear AL he hltz hlt hg hkk eg
   go_wp2
   go_ret
   refine ⟨_, rfl, ?_, BW.out⟩
   have hno : xs.any p = false := by
    rw [List.any_eq_false]
    intro x hxm hpx
    obtain ⟨j, hj, rfl⟩ := List.getElem_of_mem hxm
    have := AL2.out j hj
    rw [at_m hj] at this
    rw [this] at hpx
    cases hpx
   rw [hno]
   rfl
theorem containsM (g : Nat) (lb : Array Value) (eg : ∀ args w, (callFunc g args).run Tryz.prog w = .ok (.enter g args) w) (p : Mt → Bool) (xs : List Mt) (A : Option Addr) (c : Nat) (w : World) (hp : PM g lb p xs w) (hx : Kd.C k61 w A xs.length xs) (hm : xs.length ≤ 1000) :
  Calls Tryz.prog 45 #[.slice A xs.length c, .func (.func g) #[] lb] w fun e w' => e = .returned (.bool (xs.any p)) ∧ Below w.heap.size w w' := by
 have hI := indexM g lb eg p xs A c w hp hx hm
 clear eg hp hx hm
 obtain ⟨n, hn⟩ : ∃ n, n = xs.length := ⟨_, rfl⟩
 rw [← hn] at hI ⊢
 obtain ⟨q, hq⟩ : ∃ q, q = xs.any p := ⟨_, rfl⟩
 rw [← hq] at hI ⊢
 clear hn hq
 have HI := Aside0.mk hI
 clear hI
 go_enter Tryz.func45, Tryz.ntmps45
 go_wp2_with (go_at_call 63; refine HI.out.mono ?_; rintro e w' ⟨r, rfl, hr, hb'⟩; have HB' := Aside0.mk hb'; have HR := Aside0.mk hr; clear hb' hr)
 go_ret
 exact ⟨by rw [← HR.out]; rfl, HB'.out⟩
def mtB (x : Ent) (m : Mt) : Bool := labelB m.f0 m.f1 m.f2 x
theorem in_below {x : Ent} {w w' : World} (h : x.In w) (hb : Below w.heap.size w w') : x.In w' := ⟨Kd.C_below h.lies hb, h.cap, h.few⟩
theorem clo_m (x : Ent) (be : Nat) (w : World) (hx : x.In w) (hb : BoxE w be x) (xs : List Mt) : PM 46 #[.pointer (some ⟨be, 0, none⟩)] (fun m => !mtB x m) xs w := by
 intro W m _ hB
 have hbe : be < w.heap.size := hb.lt
 have k0 : ∀ o : Obj, (W.alloc o).cell? ⟨be, 0, none⟩ = some (.int .i64 x.at_) := fun o => ((hb.below hB).below (below_alloc (Below.refl _ _) o)).c0
 have k1 : ∀ o : Obj, (W.alloc o).cell? ⟨be, 1, none⟩ = some (.slice x.A x.ls.length x.c) := fun o => ((hb.below hB).below (below_alloc (Below.refl _ _) o)).c1
 have k2 : ∀ o : Obj, (W.alloc o).cell? ⟨be, 2, none⟩ = some (.string x.line) := fun o => ((hb.below hB).below (below_alloc (Below.refl _ _) o)).c2
 have HI := Aside0.mk (fun o => label_hand m.f0 m.f2 m.f1 x (W.alloc o) (in_below (in_below hx hB) (below_alloc (Below.refl _ _) o)))
 clear hx hb hB
 unfold mtB
 dsimp only
 obtain ⟨q, hq⟩ : ∃ q, q = labelB m.f0 m.f1 m.f2 x := ⟨_, rfl⟩
 rw [← hq] at HI ⊢
 unfold Ent.val at HI
 unfold mtv
 clear hq
 simp only [List.append_toArray, List.cons_append, List.nil_append]
 go_enter Tryz.func46, Tryz.ntmps46
 go_wp2_with (go_at_call 47; refine (HI.out _).mono ?_; rintro e w' ⟨rfl, hb'⟩; have HB' := Aside0.mk hb'; clear hb')
 go_ret
 exact ⟨rfl, below_step (below_alloc (Below.refl _ W) _) HB'.out⟩
theorem egm : ∀ args w, (callFunc 46 args).run Tryz.prog w = .ok (.enter 46 args) w := enters_of Tryz.func46 (by kernel_rfl) rfl
theorem labels_m (x : Ent) (xs : List Mt) (A : Option Addr) (c : Nat) (w : World) (hx : x.In w) (hm : Kd.C k61 w A xs.length xs) (hl : xs.length ≤ 1000) :
  Calls Tryz.prog 34 #[.slice A xs.length c, x.val] w fun e w' => e = .returned (.bool (xs.all (mtB x))) ∧ Below w.heap.size w w' := by
 have hmf : ∀ (fn : Fn) (first cap : Array Value) (w : World), (Instr.makeFunc fn first cap).run Tryz.prog w = .ok (.func fn first cap) w := fun _ _ _ _ => rfl
 have HI : Aside0 (Calls Tryz.prog 45 #[.slice A xs.length c, .func (.func 46) #[] #[.pointer (some ⟨w.heap.size, 0, none⟩)]] (w.alloc (.cells #[.int .i64 x.at_, .slice x.A x.ls.length x.c, .string x.line] 26)) fun e w' => e = .returned (.bool (!xs.all (mtB x))) ∧ Below (w.alloc (.cells #[.int .i64 x.at_, .slice x.A x.ls.length x.c, .string x.line] 26)).heap.size (w.alloc (.cells #[.int .i64 x.at_, .slice x.A x.ls.length x.c, .string x.line] 26)) w') := ⟨by
  have hb := below_alloc (Below.refl _ w) (.cells #[.int .i64 x.at_, .slice x.A x.ls.length x.c, .string x.line] 26)
  have h := containsM 46 #[.pointer (some ⟨w.heap.size, 0, none⟩)] egm (fun m => !mtB x m) xs A c _ (clo_m x w.heap.size _ (in_below hx hb) (World.alloc_heap_new w _) xs) (Kd.C_below hm hb) hl
  have e : (xs.any fun m => !mtB x m) = !xs.all (mtB x) := by rw [List.not_all_eq_any_not]
  rw [e] at h
  exact h⟩
 clear hx hm hl
 unfold Ent.val
 obtain ⟨n, hn⟩ : ∃ n, n = xs.length := ⟨_, rfl⟩
 rw [← hn] at HI ⊢
 obtain ⟨q, hq⟩ : ∃ q, q = xs.all (mtB x) := ⟨_, rfl⟩
 rw [← hq] at HI ⊢
 clear hn hq
 go_enter Tryz.func34, Tryz.ntmps34
 go_wp2_with (go_at_call 45; refine HI.out.mono ?_; rintro e w' ⟨rfl, hb'⟩; have HB' := Aside0.mk hb'; clear hb')
 go_ret
 exact ⟨rfl, below_step (below_alloc (Below.refl _ w) _) HB'.out⟩
theorem refValue_f (x : Ent) (n : ByteArray) (hn : x.ls.length ≤ 100000) (k : Nat) (hk : 100001 ≤ k) : magpieref04_Value.f k x.at_ x.ls x.line n = some (valueOf x.ls n) := by
 have := refValue_l n x.ls hn k 0 (by omega) (by omega)
 rw [List.drop_zero] at this
 exact this
theorem refLabel_f (x : Ent) (m : Mt) (hn : x.ls.length ≤ 100000) (k : Nat) (hk : 100001 ≤ k) : magpieref09_Label.f k m.f0 m.f1 m.f2 x.at_ x.ls x.line = some (mtB x m) := by
 unfold magpieref09_Label.f mtB labelB
 rw [refValue_f x m.f0 hn k hk]
 simp only [Option.bind_some]
 cases m.f1 with
 | true => rw [if_pos rfl]; cases h : (valueOf x.ls m.f0).1.toList == m.f2.toList <;> simp [bne, h]
 | false => rw [if_neg (by decide)]; cases h : (valueOf x.ls m.f0).1.toList == m.f2.toList <;> simp [h]
theorem refLabels_l (x : Ent) (hn : x.ls.length ≤ 100000) (xs : List Mt) (hm : xs.length ≤ 1000) : ∀ (k i : Nat), xs.length - i + 100001 < k → i ≤ xs.length → magpieref09_Labels.l0 k xs (xs.length : Int) (i : Int) x.at_ x.ls x.line = some ((xs.drop i).all (mtB x))
 | 0, i, h, hi => by omega
 | k + 1, i, h, hi => by
  rw [magpieref09_Labels.l0]
  by_cases hlt : i < xs.length
  ·have ih := refLabels_l x hn xs hm k (i + 1) (by omega) (by omega)
   rw [if_pos (by omega), if_pos (by omega), if_pos (by omega), at_m hlt, refLabel_f x xs[i] hn k (by omega)]
   simp only [Option.bind_some]
   rw [W.w64_in _ (by omega), List.drop_eq_getElem_cons hlt, List.all_cons, show ((i : Int) + 1) = ((i + 1 : Nat) : Int) by omega, ih]
   cases h : mtB x xs[i] <;> simp
  ·rw [if_neg (by omega), List.drop_eq_nil_of_le (by omega)]; rfl
theorem refLabels_m (x : Ent) (xs : List Mt) (A : Option Addr) (c : Nat) (w : World) (hx : x.In w) (hm : Kd.C k61 w A xs.length xs) (hc : xs.length ≤ c) (hl : xs.length ≤ 1000) :
  Calls Tryz.prog 31 #[.slice A xs.length c, x.val] w fun e w' => e = .returned (.bool (xs.all (mtB x))) ∧ Below w.heap.size w w' :=
 magpieref09_Labels.calls 200000 A c xs x.at_ x.A x.c x.ls x.line _ w hm hc hx.lies hx.cap (by
  have := refLabels_l x hx.few xs hl 200000 0 (by omega) (by omega)
  rw [List.drop_zero] at this
  exact this)
end Go.Proofs.YtpleiklodomgiaaGreatDoor.Q
end
