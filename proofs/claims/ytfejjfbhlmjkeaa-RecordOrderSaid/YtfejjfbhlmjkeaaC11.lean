/- record.Good. -/
import Derived.Test.YtfejjfbhlmjkeaaC10
import Derived.Test.YtfejjfbhlmjkeaaCon
import Derived.Shelf.Vars
import Derived.KernelRfl
set_option linter.unusedVariables false
set_option linter.unusedSimpArgs false
namespace Go.Proofs.Ytfejjfbhlmjkeaa.C
open Go.RowKit Go.Shelf Go.Lib Go.Proofs.YtfejjfbhlmjkeaaW.PrintWords Go.Proofs.YtfejjfbhlmjkeaaW.PrintLast Go.Proofs.YtfejjfbhlmjkeaaW.PrintMore Go.Proofs.Ytfejjfbhlmjkeaa.B Go.Proofs.Ytfejjfbhlmjkeaa.PRecordIs Go.Proofs.Ytfejjfbhlmjkeaa.CQ

/-- The library's search answers what it should, from this world on. -/
def Con (w : World) : Prop := ∀ (s sub : ByteArray) (w' : World), s.size < 4294967281 → Below w.heap.size w w' → Calls Try.prog 62 #[.string s, .string sub] w' fun e w2 => e = .returned (.bool (Lib.contains s.data.toList sub.data.toList)) ∧ w2 = w'
theorem Con.below {w w1 : World} (h : Con w) (hb : Below w.heap.size w w1) : Con w1 := fun s sub w' hs hb' => h s sub w' hs (below_step hb hb')
theorem con_of {W : World} (h : W.ShapedOpen Try.prog) : Con W := by
  obtain ⟨m, hm⟩ := cell_of_shapedOpen_int (P := Try.prog) (g := 0) (t := 3) (zero := #[.int .i64 0]) h (of_decide_eq_true (by kernel_rfl)) (by kernel_rfl) rfl (by kernel_rfl) (by kernel_rfl) Try.underlying3
  intro s sub w' hs hb
  exact Try.strings_Contains s sub m w' hs (cell_below hb hm)

def timeOk (a : Int) : Bool := decide (-1099511627776 ≤ a) && decide (a ≤ 1099511627776)
def lineOk (s : ByteArray) : Bool := decide (s.size ≤ 200) && !Lib.contains s.data.toList [10]
/-- Whether an entry can be. -/
def goodE (k : Key) : Bool := timeOk k.at_ && (goodL k.ls && lineOk k.line)
theorem time_any (a : Int) (w : World) : Calls Try.prog 35 #[.int .i64 a] w fun e w' => e = .returned (.bool (timeOk a)) ∧ Below w.heap.size w w' := by
  refine (record_Time.calls a (timeOk a) w ?_).mono fun _ _ ⟨h, k⟩ => ⟨h, k.below⟩
  unfold record_Time.f timeOk
  split
  · rename_i h; rw [decide_eq_true (show -1099511627776 ≤ a from h), Bool.true_and]
  · rename_i h; rw [decide_eq_false (show ¬ -1099511627776 ≤ a from h), Bool.false_and]
set_option maxRecDepth 20000 in
theorem good_any (x : Ent) (w : World) (hx : x.In w) (hs : ∀ y ∈ x.ls, y.f0.size ≤ 4611686018427) (hln : x.line.size < 4294967281) (hC : Con w) :
    Calls Try.prog 32 #[x.val] w fun e w' => e = .returned (.bool (goodE x.key)) ∧ Below w.heap.size w w' := by
  obtain ⟨x0, xA, xc, xl, x2⟩ := x
  obtain ⟨q, hq⟩ : ∃ q, q = goodE (Ent.key ⟨x0, xA, xc, xl, x2⟩) := ⟨_, rfl⟩
  obtain ⟨tm, htm⟩ : ∃ b, b = timeOk x0 := ⟨_, rfl⟩
  obtain ⟨lb, hlb⟩ : ∃ b, b = goodL xl := ⟨_, rfl⟩
  obtain ⟨cn, hcn⟩ : ∃ b, b = Lib.contains x2.data.toList [10] := ⟨_, rfl⟩
  have HQ : Aside0 (q = (tm && (lb && (decide (x2.size ≤ 200) && !cn)))) := ⟨by rw [hq, htm, hlb, hcn]; rfl⟩
  have HT : Aside0 (∀ V, Calls Try.prog 35 #[.int .i64 x0] V fun e w' => e = .returned (.bool tm) ∧ Below V.heap.size V w') := ⟨fun V => by rw [htm]; exact time_any x0 V⟩
  have HLb : Aside0 (∀ V, Below w.heap.size w V → Calls Try.prog 61 #[.slice xA xl.length xc] V fun e w' => e = .returned (.bool lb) ∧ Below V.heap.size V w') := ⟨fun V h => by rw [hlb]; exact labels_any xl xA xc V (Kd.C_below hx.lies h) hx.few hs⟩
  have HCn : Aside0 (∀ V, Below w.heap.size w V → Calls Try.prog 62 #[.string x2, .string ⟨#[10]⟩] V fun e w' => e = .returned (.bool cn) ∧ w' = V) := ⟨fun V h => by rw [hcn]; exact hC x2 ⟨#[10]⟩ V hln h⟩
  rw [← hq]
  unfold Ent.val
  dsimp only
  obtain ⟨W, hW⟩ : ∃ W, W = w.alloc (.cells #[.int .i64 x0, .slice xA xl.length xc, .string x2] 34) := ⟨_, rfl⟩
  obtain ⟨j, hj⟩ : ∃ j, j = w.heap.size := ⟨_, rfl⟩
  have HB : Aside0 (Below w.heap.size w W) := ⟨by rw [hW]; exact below_alloc (Below.refl _ w) _⟩
  have X0 : Aside0 (W.heap[j]? = some (.cells #[.int .i64 x0, .slice xA xl.length xc, .string x2] 34)) := ⟨by rw [hW, hj]; exact Go.heap_alloc_new _ _⟩
  have HW := Aside0.mk hW
  have HJ := Aside0.mk hj
  clear hq htm hlb hcn hx hs hln hC hW hj
  go_enter Try.func32, Try.ntmps32
  go_wp2_with fail
  try rw [← HW.out]
  try rw [← HJ.out]
  clear HW HJ
  ((refine (HT.out _).mono ?_); rintro e w1 ⟨rfl, hb1⟩)
  have HB := Aside0.mk (below_step HB.out hb1)
  have X0 := Aside0.mk (heap_below hb1 X0.out)
  clear hb1
  cases tm with
  | false =>
    have HF : Aside0 (q = false) := ⟨HQ.out⟩
    go_wp2
    go_ret
    exact ⟨by rw [HF.out]; rfl, HB.out⟩
  | true =>
    have c1 : w1.cell? ⟨j, 1, none⟩ = some (.slice xA xl.length xc) := blk_cell X0.out 1
    go_wp2_with fail
    clear c1
    ((refine (HLb.out _ HB.out).mono ?_); rintro e w2 ⟨rfl, hb1⟩)
    have HB := Aside0.mk (below_step HB.out hb1)
    have X0 := Aside0.mk (heap_below hb1 X0.out)
    clear hb1
    cases lb with
    | false =>
      have HF : Aside0 (q = false) := ⟨HQ.out⟩
      go_wp2
      go_ret
      exact ⟨by rw [HF.out]; rfl, HB.out⟩
    | true =>
      have c1 : w2.cell? ⟨j, 2, none⟩ = some (.string x2) := blk_cell X0.out 2
      by_cases h2 : x2.size ≤ 200
      · have d1 : decide ((x2.size : Int) ≤ 200) = true := decide_eq_true (by omega)
        have d2 : decide (x2.size ≤ 200) = true := decide_eq_true (by omega)
        have HF : Aside0 (q = !cn) := ⟨by rw [HQ.out, d2]; rfl⟩
        clear h2
        go_wp2_with fail
        ((refine (HCn.out _ HB.out).mono ?_); rintro e w3 ⟨rfl, rfl⟩)
        go_wp2
        go_ret
        exact ⟨by rw [HF.out]; rfl, HB.out⟩
      · have d1 : decide ((x2.size : Int) ≤ 200) = false := decide_eq_false (by omega)
        have d2 : decide (x2.size ≤ 200) = false := decide_eq_false (by omega)
        have HF : Aside0 (q = false) := ⟨by rw [HQ.out, d2]; rfl⟩
        clear h2
        go_wp2
        go_ret
        exact ⟨by rw [HF.out]; rfl, HB.out⟩
end Go.Proofs.Ytfejjfbhlmjkeaa.C
