/- In whichever parts bytes are written, saved and loaded between, the hash and the Save are those of the whole. For every input; no condition but that the listed variables begin as the text lays them, to which the card ties them. -/
import Derived.Test.YtdnbnfebapofnaaDoorSM
import Derived.Test.YtdnbnfebapofnaaDoorSL
import Derived.Test.YtdnbnfebapofnaaDoorCards
import Derived.Test.YtdnbnfebapofnaaDoorTie
import Derived.Test.YtdnbnfebapofnaaDoorRows
namespace Go.Proofs.YtdnbnfebapofnaaDoor
open Go Go.ChangeShapes Go.WideShapes Go.ChangeAt Go.RowKit

theorem own_shaParts : ownKnob Tryd.prog.godebug = none := by kernel_rfl
theorem laid_shaParts : laidOutB Tryd.prog = true := by kernel_rfl

theorem door_shaParts (os : Os) (args : Array Value) : laidMetH Tryd.prog [("pennant/sha.table", Rows.laid_pennant_sha_table)] ((World.doorLaid Tryd.prog 400 os).forCall (fun _ _ => 0) ⟨#[], args, []⟩).memory :=
  laidMetH_of_parts3 (fuel := 8) (laidMet_of_run' 8 (by kernel_rfl) (by kernel_rfl)) (by kernel_rfl) (by kernel_rfl)
set_option maxRecDepth 100000 in
theorem shaParts_lifted (os : Os) (started : os.Started) (H : Type) (enc : TypeId × Value → H) :
    ReturnsInHanded {} Tryd.checked os 8 .any (fun w args => (Rows.shaPartsSpec.pre enc Tryd.prog Tryd.f8 [] false w args ∧ laidMetH Tryd.prog [("pennant/sha.table", Rows.laid_pennant_sha_table)] w) ∧ sizedMet enc Tryd.prog Tryd.f8 (OpenSpec.ofChange Rows.shaPartsSpec) false w args) (Rows.shaPartsSpec.post enc Tryd.prog Tryd.f8 false true false false) := by
  refine law_lift_laid (C := Tryd.checked) (fn := Tryd.f8) (s := Rows.shaPartsSpec) (tb := 4) (laid := [("pennant/sha.table", Rows.laid_pennant_sha_table)]) own_shaParts started (by kernel_rfl) Tryd.func8 laid_shaParts rfl Tryd.underlying4 rfl (by kernel_rfl) ?_
    (ChangeSpec.witness_shaped (enc := enc) (C := Tryd.checked) (os := os) (X := fun w _ => laidMetH Tryd.prog [("pennant/sha.table", Rows.laid_pennant_sha_table)] w) false (World.doorLaid Tryd.prog 400 os) #[.slice none 0 0] 8 rfl (World.shaped_of_RefB (by kernel_rfl) (by kernel_rfl)) (by kernel_rfl) (by kernel_rfl) (by kernel_rfl) (door_shaParts os _)) ?_
  · intro ds hl
    match ds, hl with
    | [_], _ => rfl
  · intro W base args ds ps hval0 hA0 hL
    have hval : ∀ (j : Nat) t v, Tryd.f8.params[j]? = some t → args[j]? = some v → Value.okWide Tryd.prog W .any base t v := hval0
    have hA : DataW.TrodAll enc Tryd.prog W 0 (fun _ => true) true Tryd.f8.params.toList args.toList ds ps := hA0
    rw [Tryd.params8] at hA hval
    obtain ⟨v0, d0, rfl, rfl, h0⟩ := trodAll_one hA
    obtain ⟨w0, l0, hr0, hq0⟩ := open_bytess Tryd.underlying41 Tryd.underlying22 Tryd.underlying5 (by kernel_rfl) (by kernel_rfl) (hval 0 41 v0 rfl rfl) h0
    exact shaParts_any (laid_tabs hL) hr0 hq0

theorem shaParts_holds : Rows.ShaPartsSaid :=
  OpenClaim.holds_of_wide 8 Tryd.f8 rfl rfl rfl rfl rfl rfl rfl ⟨rfl, rfl, rfl, rfl, rfl⟩ rfl rfl rfl rfl rfl (by kernel_rfl) Tryd.func8 (by kernel_rfl)
    (of_decide_eq_true (by kernel_rfl)) (by unfold Func.isWrapper; first | (rw [if_pos (by decide +kernel)]; kernel_rfl) | (rw [if_neg (by decide +kernel)]; exact ⟨rfl, rfl⟩))
    (fun os started H enc _ => shaParts_lifted os started H enc)

theorem shaParts_card : Rows.ShaPartsCardSaid :=
  Claim7.holds_tied_plain_at .later [] [.data] true (true, "fa0cec47bb84db11c24c08a72ee95caa18673f4f1321da7a55d29a36503d71ad") false
    shaParts_holds (fun _ h => by cases h) (by kernel_rfl) (fun _ h => by cases h) shaParts_row_tie rfl ⟨rfl, rfl⟩ (by kernel_rfl) rfl
    (fun f fn hf hfn => by
      obtain rfl : f = 8 := Option.some.inj ((show Tryd.prog.funcNamed "pennant/pennantlaw01.ShaParts" = some 8 by kernel_rfl).symm.trans hf) |>.symm
      obtain rfl : fn = Tryd.f8 := (Option.some.inj (Tryd.func8.symm.trans hfn)).symm
      exact ⟨by kernel_rfl, fun j t ht => by
        rw [Tryd.params8] at ht
        have hm : t ∈ [41] := by simpa using Array.mem_of_getElem? ht
        have hall : ([41].all fun u => !Tryd.prog.wantsStandIn u) = true := by kernel_rfl
        exact (show Tryd.prog.wantsStandIn t = false by simpa using List.all_eq_true.1 hall t hm)⟩)
    (by kernel_rfl)
#print axioms shaParts_card
end Go.Proofs.YtdnbnfebapofnaaDoor
