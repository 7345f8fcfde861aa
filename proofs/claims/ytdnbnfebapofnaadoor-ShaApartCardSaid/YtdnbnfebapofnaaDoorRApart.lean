/- Two hashes that go on from one Save are those of their own bytes. For every input; no condition but that the listed variables begin as the text lays them, to which the card ties them. -/
import Derived.Test.YtdnbnfebapofnaaDoorSM
import Derived.Test.YtdnbnfebapofnaaDoorSL
import Derived.Test.YtdnbnfebapofnaaDoorCards
import Derived.Test.YtdnbnfebapofnaaDoorTie
import Derived.Test.YtdnbnfebapofnaaDoorRows
namespace Go.Proofs.YtdnbnfebapofnaaDoor
open Go Go.ChangeShapes Go.WideShapes Go.ChangeAt Go.RowKit

theorem own_shaApart : ownKnob Tryd.prog.godebug = none := by kernel_rfl
theorem laid_shaApart : laidOutB Tryd.prog = true := by kernel_rfl

theorem door_shaApart (os : Os) (args : Array Value) : laidMetH Tryd.prog [("pennant/sha.table", Rows.laid_pennant_sha_table)] ((World.doorLaid Tryd.prog 400 os).forCall (fun _ _ => 0) ⟨#[], args, []⟩).memory :=
  laidMetH_of_parts3 (fuel := 8) (laidMet_of_run' 8 (by kernel_rfl) (by kernel_rfl)) (by kernel_rfl) (by kernel_rfl)
set_option maxRecDepth 100000 in
theorem shaApart_lifted (os : Os) (started : os.Started) (H : Type) (enc : TypeId × Value → H) :
    ReturnsInHanded {} Tryd.checked os 7 .any (fun w args => (Rows.shaApartSpec.pre enc Tryd.prog Tryd.f7 [] false w args ∧ laidMetH Tryd.prog [("pennant/sha.table", Rows.laid_pennant_sha_table)] w) ∧ sizedMet enc Tryd.prog Tryd.f7 (OpenSpec.ofChange Rows.shaApartSpec) false w args) (Rows.shaApartSpec.post enc Tryd.prog Tryd.f7 false true false false) := by
  refine law_lift_laid (C := Tryd.checked) (fn := Tryd.f7) (s := Rows.shaApartSpec) (tb := 4) (laid := [("pennant/sha.table", Rows.laid_pennant_sha_table)]) own_shaApart started (by kernel_rfl) Tryd.func7 laid_shaApart rfl Tryd.underlying4 rfl (by kernel_rfl) ?_
    (ChangeSpec.witness_shaped (enc := enc) (C := Tryd.checked) (os := os) (X := fun w _ => laidMetH Tryd.prog [("pennant/sha.table", Rows.laid_pennant_sha_table)] w) false (World.doorLaid Tryd.prog 400 os) #[.slice none 0 0, .slice none 0 0, .slice none 0 0] 8 rfl (World.shaped_of_RefB (by kernel_rfl) (by kernel_rfl)) (by kernel_rfl) (by kernel_rfl) (by kernel_rfl) (door_shaApart os _)) ?_
  · intro ds hl
    match ds, hl with
    | [_, _, _], _ => rfl
  · intro W base args ds ps hval0 hA0 hL
    have hval : ∀ (j : Nat) t v, Tryd.f7.params[j]? = some t → args[j]? = some v → Value.okWide Tryd.prog W .any base t v := hval0
    have hA : DataW.TrodAll enc Tryd.prog W 0 (fun _ => true) true Tryd.f7.params.toList args.toList ds ps := hA0
    rw [Tryd.params7] at hA hval
    obtain ⟨v0, v1, v2, d0, d1, d2, p0, p1, p2, rfl, rfl, rfl, h0, h1, h2⟩ := trodAll_three hA
    obtain ⟨l0, hr0⟩ := open_bytes Tryd.underlying22 Tryd.underlying5 (by kernel_rfl) (hval 0 22 v0 rfl rfl) h0 (fun _ => rfl)
    obtain ⟨l1, hr1⟩ := open_bytes Tryd.underlying22 Tryd.underlying5 (by kernel_rfl) (hval 1 22 v1 rfl rfl) h1 (fun _ => rfl)
    obtain ⟨l2, hr2⟩ := open_bytes Tryd.underlying22 Tryd.underlying5 (by kernel_rfl) (hval 2 22 v2 rfl rfl) h2 (fun _ => rfl)
    exact shaApart_any (laid_tabs hL) hr0 hr1 hr2

theorem shaApart_holds : Rows.ShaApartSaid :=
  OpenClaim.holds_of_wide 7 Tryd.f7 rfl rfl rfl rfl rfl rfl rfl ⟨rfl, rfl, rfl, rfl, rfl⟩ rfl rfl rfl rfl rfl (by kernel_rfl) Tryd.func7 (by kernel_rfl)
    (of_decide_eq_true (by kernel_rfl)) (by unfold Func.isWrapper; first | (rw [if_pos (by decide +kernel)]; kernel_rfl) | (rw [if_neg (by decide +kernel)]; exact ⟨rfl, rfl⟩))
    (fun os started H enc _ => shaApart_lifted os started H enc)

theorem shaApart_card : Rows.ShaApartCardSaid :=
  Claim7.holds_tied_plain_at .later [] [.data] true (true, "fa0cec47bb84db11c24c08a72ee95caa18673f4f1321da7a55d29a36503d71ad") false
    shaApart_holds (fun _ h => by cases h) (by kernel_rfl) (fun _ h => by cases h) shaApart_row_tie rfl ⟨rfl, rfl⟩ (by kernel_rfl) rfl
    (fun f fn hf hfn => by
      obtain rfl : f = 7 := Option.some.inj ((show Tryd.prog.funcNamed "pennant/pennantlaw01.ShaApart" = some 7 by kernel_rfl).symm.trans hf) |>.symm
      obtain rfl : fn = Tryd.f7 := (Option.some.inj (Tryd.func7.symm.trans hfn)).symm
      exact ⟨by kernel_rfl, fun j t ht => by
        rw [Tryd.params7] at ht
        have hm : t ∈ [22, 22, 22] := by simpa using Array.mem_of_getElem? ht
        have hall : ([22, 22, 22].all fun u => !Tryd.prog.wantsStandIn u) = true := by kernel_rfl
        exact (show Tryd.prog.wantsStandIn t = false by simpa using List.all_eq_true.1 hall t hm)⟩)
    (by kernel_rfl)
#print axioms shaApart_card
end Go.Proofs.YtdnbnfebapofnaaDoor
