/- DiskApart: a write changes its own sector alone, and what is read is the own memory of the reader. For every input; no condition. -/
import Derived.Test.YtjlgdbmeajdciaaG
import Derived.Test.YtjlgdbmeajdciaaRows
namespace Go.Proofs.Ytjlgdbmeajdciaa
open Go Go.ChangeShapes Go.WideShapes Go.ChangeAt Go.RowKit

theorem own_diskApart : ownKnob Try.prog.godebug = none := by kernel_rfl
theorem laid_diskApart : laidOutB Try.prog = true := by kernel_rfl

set_option maxRecDepth 100000 in
theorem diskApart_lifted (os : Os) (started : os.Started) (H : Type) (enc : TypeId × Value → H) :
    ReturnsInHanded {} Try.checked os 3 .any (Rows.diskApartSpec.pre6 enc Try.prog Try.f3 Rows.diskApartRow.domain false) (Rows.diskApartSpec.post enc Try.prog Try.f3 false true false false) := by
  refine law_lift (C := Try.checked) (fn := Try.f3) (s := Rows.diskApartSpec) (tb := 4) own_diskApart started (by kernel_rfl) Try.func3 laid_diskApart rfl Try.underlying4 rfl (by kernel_rfl) ?_
    (ChangeSpec.witness6 (enc := enc) (C := Try.checked) false ⟨#[], #[.int .i64 0, .slice none 0 0, .int .i64 0], []⟩ 8 (by kernel_rfl) (by kernel_rfl) (by kernel_rfl) (by kernel_rfl)) ?_
  · intro ds hl
    match ds, hl with
    | [_, _, _], _ => rfl
  · intro W base args ds ps hval0 hA0
    have hval : ∀ (j : Nat) t v, Try.f3.params[j]? = some t → args[j]? = some v → Value.okWide Try.prog W .any base t v := hval0
    have hA : DataW.TrodAll enc Try.prog W 0 (fun _ => true) true Try.f3.params.toList args.toList ds ps := hA0
    rw [Try.params3] at hA hval
    obtain ⟨v0, v1, v2, d0, d1, d2, p0, p1, p2, rfl, rfl, rfl, h0, h1, h2⟩ := trodAll_three hA
    obtain ⟨k0, rfl, _⟩ := open_int Try.underlying3 (hval 0 3 v0 rfl rfl) h0
    obtain ⟨l1, hr1⟩ := open_bytes Try.underlying22 Try.underlying5 (by kernel_rfl) (hval 1 22 v1 rfl rfl) h1 (fun _ => rfl)
    obtain ⟨k2, rfl, _⟩ := open_int Try.underlying3 (hval 2 3 v2 rfl rfl) h2
    exact diskApart_any hr1

theorem diskApart_holds : Rows.DiskApartSaid :=
  OpenClaim.holds_of_wide 3 Try.f3 rfl rfl rfl rfl rfl rfl rfl ⟨rfl, rfl, rfl, rfl, rfl⟩ rfl rfl rfl rfl rfl (by kernel_rfl) Try.func3 (by kernel_rfl)
    (of_decide_eq_true (by kernel_rfl)) (by unfold Func.isWrapper; first | (rw [if_pos (by decide +kernel)]; kernel_rfl) | (rw [if_neg (by decide +kernel)]; exact ⟨rfl, rfl⟩))
    (fun os started H enc _ => diskApart_lifted os started H enc)

#print axioms diskApart_holds
end Go.Proofs.Ytjlgdbmeajdciaa
