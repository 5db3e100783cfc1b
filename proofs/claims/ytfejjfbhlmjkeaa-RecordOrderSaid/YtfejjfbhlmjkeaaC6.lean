/- record.Sort. -/
import Derived.Test.YtfejjfbhlmjkeaaC5
set_option linter.unusedVariables false
set_option linter.unusedSimpArgs false
namespace Go.Proofs.Ytfejjfbhlmjkeaa.C
open Go.RowKit Go.Sort Go.Proofs.YtfejjfbhlmjkeaaW.PrintWords Go.Proofs.YtfejjfbhlmjkeaaW.PrintLast Go.Proofs.YtfejjfbhlmjkeaaW.PrintMore Go.Proofs.Ytfejjfbhlmjkeaa.B Go.Proofs.Ytfejjfbhlmjkeaa.PRecordIs Go.Proofs.Ytfejjfbhlmjkeaa.CQ

theorem order_any (desc : Bool) (w : World) : Calls Try.prog 23 #[.bool desc] w fun e w' => e = .returned (.func (.func (ordF desc)) #[] #[]) ∧ w' = w := by
  cases desc
  · go_enter Try.func23, Try.ntmps23
    go_wp2
    go_ret
    exact ⟨rfl, rfl⟩
  · go_enter Try.func23, Try.ntmps23
    go_wp2
    go_ret
    exact ⟨rfl, rfl⟩
set_option maxRecDepth 20000 in
theorem sort_any {w0 : World} (desc : Bool) (l : List (EntIn w0)) (b off c : Nat) (hrow : RowE w0 b off l) (hm : l.length ≤ 100000) :
    Calls Try.prog 25 #[.bool desc, .slice (some ⟨b, off, none⟩) l.length c] w0 fun e w' => ∃ g cap, ∃ r : List (EntIn w0), e = .returned (.slice (some ⟨g, 0, none⟩) r.length cap) ∧ w0.heap.size ≤ g ∧ r.length ≤ cap ∧ r.length ≤ l.length ∧ RowE w' g 0 r ∧ Below w0.heap.size w0 w' ∧ Up (cmpO desc) (r.map keyOf) ∧ ∀ k, k ∈ r.map keyOf ↔ k ∈ l.map keyOf := by
  have HR := Aside0.mk hrow
  have HM := Aside0.mk hm
  clear hrow hm
  go_enter Try.func25, Try.ntmps25
  go_wp2_with fail
  ((refine (clone_any l b off c HR.out HM.out).mono ?_); rintro e w1 ⟨g, cap, rfl, hg0, hg1, hcap, hH, hB⟩)
  have HG0 := Aside0.mk hg0
  have HG1 := Aside0.mk hg1
  have HCap := Aside0.mk hcap
  have HH := Aside0.mk hH
  have HB := Aside0.mk hB
  clear hg0 hg1 hcap hH hB
  go_wp2_with fail
  ((refine (order_any desc _).mono ?_); rintro e w2 ⟨rfl, rfl⟩)
  go_wp2_with fail
  ((refine (sortfunc_any desc l g cap HM.out HB.out HG0.out HG1.out HH.out).mono ?_); rintro e w3 ⟨rfl, d, hsz, hp, hs, hH3, hB3, hg3⟩)
  have HS := Aside0.mk hsz
  have HP := Aside0.mk hp
  have HSo := Aside0.mk hs
  have HC := compact_any (w := w3) g 0 cap d hB3 HG0.out hg3 hH3 (by rw [hsz]; have := HM.out; omega) (by rw [hsz]; exact HCap.out)
  rw [hsz] at HC
  have HC := Aside0.mk HC
  clear hsz hp hs hH3 hB3 hg3 HH HB HG1
  go_wp2_with fail
  ((refine HC.out.mono ?_); rintro e w4 ⟨rfl, hB4, hrow4⟩)
  have HB4 := Aside0.mk hB4
  have HR4 := Aside0.mk hrow4
  clear hB4 hrow4
  go_wp2_with fail
  go_ret
  have hl := once_len eqE d l.length
  have hs := HS.out
  refine ⟨g, cap, once eqE d l.length, rfl, HG0.out, Nat.le_trans hl HCap.out, hl, HR4.out, HB4.out, once_up d (cmpO_c desc) (fun i j h1 h2 => Int.not_lt.2 (HSo.out i j h1 h2)) _ (by omega), fun k => ?_⟩
  rw [once_mem d _ (by omega)]
  rw [List.mem_map]
  constructor
  · rintro ⟨i, hi, rfl⟩
    refine ⟨d[i]!, HP.out.mem_iff.1 ?_, rfl⟩
    rw [getElem!_pos d i (by omega)]
    exact Array.mem_toList_iff.2 (Array.getElem_mem (by omega))
  · rintro ⟨x, hx, rfl⟩
    have hx2 := HP.out.mem_iff.2 hx
    obtain ⟨i, hi, rfl⟩ := Array.mem_iff_getElem.1 (Array.mem_toList_iff.1 hx2)
    exact ⟨i, by omega, by rw [getElem!_pos d i hi]⟩
end Go.Proofs.Ytfejjfbhlmjkeaa.C
