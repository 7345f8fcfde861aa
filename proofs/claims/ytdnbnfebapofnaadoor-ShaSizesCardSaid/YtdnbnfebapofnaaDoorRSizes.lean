/- A Save has 40 bytes and those of no whole block; with one more, or less, it is none. For every input; no condition but that the listed variables begin as the text lays them, to which the card ties them. -/
import Derived.Test.YtdnbnfebapofnaaDoorSM
import Derived.Test.YtdnbnfebapofnaaDoorSL
import Derived.Test.YtdnbnfebapofnaaDoorCards
import Derived.Test.YtdnbnfebapofnaaDoorTie
import Derived.Test.YtdnbnfebapofnaaDoorRows
namespace Go.Proofs.YtdnbnfebapofnaaDoor
open Go Go.ChangeShapes Go.WideShapes Go.ChangeAt Go.RowKit

theorem own_shaSizes : ownKnob Tryd.prog.godebug = none := by kernel_rfl
theorem laid_shaSizes : laidOutB Tryd.prog = true := by kernel_rfl

theorem door_shaSizes (os : Os) (args : Array Value) : laidMetH Tryd.prog [("pennant/sha.table", Rows.laid_pennant_sha_table)] ((World.doorLaid Tryd.prog 400 os).forCall (fun _ _ => 0) ⟨#[], args, []⟩).memory :=
  laidMetH_of_parts3 (fuel := 8) (laidMet_of_run' 8 (by kernel_rfl) (by kernel_rfl)) (by kernel_rfl) (by kernel_rfl)
set_option maxRecDepth 100000 in
theorem shaSizes_lifted (os : Os) (started : os.Started) (H : Type) (enc : TypeId × Value → H) :
    ReturnsInHanded {} Tryd.checked os 9 .any (fun w args => (Rows.shaSizesSpec.pre enc Tryd.prog Tryd.f9 [] false w args ∧ laidMetH Tryd.prog [("pennant/sha.table", Rows.laid_pennant_sha_table)] w) ∧ sizedMet enc Tryd.prog Tryd.f9 (OpenSpec.ofChange Rows.shaSizesSpec) false w args) (Rows.shaSizesSpec.post enc Tryd.prog Tryd.f9 false true false false) := by
  refine law_lift_laid (C := Tryd.checked) (fn := Tryd.f9) (s := Rows.shaSizesSpec) (tb := 4) (laid := [("pennant/sha.table", Rows.laid_pennant_sha_table)]) own_shaSizes started (by kernel_rfl) Tryd.func9 laid_shaSizes rfl Tryd.underlying4 rfl (by kernel_rfl) ?_
    (ChangeSpec.witness_shaped (enc := enc) (C := Tryd.checked) (os := os) (X := fun w _ => laidMetH Tryd.prog [("pennant/sha.table", Rows.laid_pennant_sha_table)] w) false (World.doorLaid Tryd.prog 400 os) #[.slice none 0 0] 8 rfl (World.shaped_of_RefB (by kernel_rfl) (by kernel_rfl)) (by kernel_rfl) (by kernel_rfl) (by kernel_rfl) (door_shaSizes os _)) ?_
  · intro ds hl
    match ds, hl with
    | [_], _ => rfl
  · intro W base args ds ps hval0 hA0 hL
    have hval : ∀ (j : Nat) t v, Tryd.f9.params[j]? = some t → args[j]? = some v → Value.okWide Tryd.prog W .any base t v := hval0
    have hA : DataW.TrodAll enc Tryd.prog W 0 (fun _ => true) true Tryd.f9.params.toList args.toList ds ps := hA0
    rw [Tryd.params9] at hA hval
    obtain ⟨v0, d0, rfl, rfl, h0⟩ := trodAll_one hA
    obtain ⟨l0, hr0⟩ := open_bytes Tryd.underlying22 Tryd.underlying5 (by kernel_rfl) (hval 0 22 v0 rfl rfl) h0 (fun _ => rfl)
    exact shaSizes_any (laid_tabs hL) hr0

theorem shaSizes_holds : Rows.ShaSizesSaid :=
  OpenClaim.holds_of_wide 9 Tryd.f9 rfl rfl rfl rfl rfl rfl rfl ⟨rfl, rfl, rfl, rfl, rfl⟩ rfl rfl rfl rfl rfl (by kernel_rfl) Tryd.func9 (by kernel_rfl)
    (of_decide_eq_true (by kernel_rfl)) (by unfold Func.isWrapper; first | (rw [if_pos (by decide +kernel)]; kernel_rfl) | (rw [if_neg (by decide +kernel)]; exact ⟨rfl, rfl⟩))
    (fun os started H enc _ => shaSizes_lifted os started H enc)

theorem shaSizes_card : Rows.ShaSizesCardSaid :=
  Claim7.holds_tied_plain_at .later [] [.data] true (true, "fa0cec47bb84db11c24c08a72ee95caa18673f4f1321da7a55d29a36503d71ad") false
    shaSizes_holds (fun _ h => by cases h) (by kernel_rfl) (fun _ h => by cases h) shaSizes_row_tie rfl ⟨rfl, rfl⟩ (by kernel_rfl) rfl
    (fun f fn hf hfn => by
      obtain rfl : f = 9 := Option.some.inj ((show Tryd.prog.funcNamed "pennant/pennantlaw01.ShaSizes" = some 9 by kernel_rfl).symm.trans hf) |>.symm
      obtain rfl : fn = Tryd.f9 := (Option.some.inj (Tryd.func9.symm.trans hfn)).symm
      exact ⟨by kernel_rfl, fun j t ht => by
        rw [Tryd.params9] at ht
        have hm : t ∈ [22] := by simpa using Array.mem_of_getElem? ht
        have hall : ([22].all fun u => !Tryd.prog.wantsStandIn u) = true := by kernel_rfl
        exact (show Tryd.prog.wantsStandIn t = false by simpa using List.all_eq_true.1 hall t hm)⟩)
    (by kernel_rfl)
#print axioms shaSizes_card
end Go.Proofs.YtdnbnfebapofnaaDoor
