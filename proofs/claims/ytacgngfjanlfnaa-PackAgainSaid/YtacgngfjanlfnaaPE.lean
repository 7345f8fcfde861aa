/- The reference's bound, whether fields may be, and whether there are not too many. No condition. -/
import Derived.Test.YtacgngfjanlfnaaPD
namespace Go.Proofs.Ytacgngfjanlfnaa
open Go

theorem mostF_bad {d : Nat} {k : Int} {mn mx : UInt64} {of : List Fld} (h : mx < mn ∨ (k ≠ 3 ∧ of ≠ []) ∨ (k ≠ 1 ∧ mx.toNat > 65536) ∨ (k ≠ 1 ∧ k ≠ 2 ∧ k ≠ 3)) : mostF d (.mk k mn mx of) = none := by
  rw [mostF_eq]
  unfold eachF
  by_cases k1 : k = 1
  · rw [if_pos k1]
    by_cases ho : of = []
    · rw [if_pos ho]; simp only
      rcases h with h | h | h | h
      · rw [if_pos (.inl h)]
      · exact absurd ho h.2
      · rw [if_pos (.inr h)]
      · exact absurd k1 h.1
    · rw [if_neg ho]
  · rw [if_neg k1]
    by_cases k2 : k = 2
    · rw [if_pos k2]
      by_cases ho : of = []
      · rw [if_pos ho]; simp only
        rcases h with h | h | h | h
        · rw [if_pos (.inl h)]
        · exact absurd ho h.2
        · rw [if_pos (.inr h)]
        · exact absurd k2 h.2.1
      · rw [if_neg ho]
    · rw [if_neg k2]
      by_cases k3 : k = 3
      · rw [if_pos k3]
        cases mostR (d + 1) of
        · rfl
        · simp only
          rcases h with h | h | h | h
          · rw [if_pos (.inl h)]
          · exact absurd k3 h.1
          · rw [if_pos (.inr h)]
          · exact absurd k3 h.2.2
      · rw [if_neg k3]
theorem mostF_good {d : Nat} {k : Int} {mn mx : UInt64} {of : List Fld} {e : Nat} (h : ¬ (mx < mn ∨ (k ≠ 1 ∧ mx.toNat > 65536))) (he : eachF d k of = some e) : mostF d (.mk k mn mx of) = some (wid (mx - mn).toNat + (if k ≠ 1 then mx.toNat * e else 0)) := by
  rw [mostF_eq, he]; simp only; rw [if_neg h]

theorem refMost_step {d : Nat} (ih : d ≤ 4 → ∀ {F : Fr} {v : Value} {cs : List Value} {fs : List Fld}, SlR F.hf v 4 fs.length cs → FldsR F.hf fs cs → Spec Try.prog F 30 [v, .int .i64 ((d + 1 : Nat) : Int)] [] (fun u hs' => u = .int .i64 ((mostR (d + 1) fs).getD 1048577 : Nat) ∧ hs' = []))
    {F : Fr} {v : Value} {cs : List Value} {fs : List Fld} (hr : SlR F.hf v 4 fs.length cs) (hc : FldsR F.hf fs cs) :
    Spec Try.prog F 30 [v, .int .i64 (d : Int)] [] (fun u hs' => u = .int .i64 ((mostR d fs).getD 1048577 : Nat) ∧ hs' = []) := by
  refine Spec.body Try.func30 rfl Try.ntmps30 rfl ?_
  refine Cod.seq ?_
  refine Cod.region ?_
  refine Ops.st (.assign rfl) rfl rfl rfl ?_
  refine Ops.nil ?_
  refine Ext.seq ?_
  refine Cod.seq ?_
  refine Cod.seq ?_
  refine Cod.region ?_
  refine Ops.st (.move rfl) rfl rfl rfl ?_
  refine Ops.st (.len rfl (Rd.ro hr) Try.runUnderlying22) rfl rfl rfl ?_
  refine Ops.st (.lss rfl rfl) rfl rfl rfl ?_
  refine Ops.st (.move rfl) rfl rfl rfl ?_
  refine Ops.splitD (t := 13) rfl (fun h1 => ?_) (fun h1 => ?_)
  ·
    refine Ops.skipG rfl rfl rfl (decide_eq_true h1) rfl rfl ?_
    refine Ops.skipG rfl rfl rfl (decide_eq_true h1) rfl rfl ?_
    refine Ops.skipG rfl rfl rfl (decide_eq_true h1) rfl rfl ?_
    refine Ops.st (.pickT rfl (decide_eq_true h1) rfl) rfl rfl rfl ?_
    refine Ops.st (.move rfl) rfl rfl rfl ?_
    refine Ops.skipG rfl rfl rfl rfl rfl rfl ?_
    refine Ops.skipG rfl rfl rfl rfl rfl rfl ?_
    refine Ops.st (.pickT rfl rfl rfl) rfl rfl rfl ?_
    refine Ops.nil ?_
    refine Ext.seq ?_
    refine Cod.condT rfl (by simp) ?_
    refine Cod.seq ?_
    refine Cod.region ?_
    refine Ops.st (.assign rfl) rfl rfl rfl ?_
    refine Ops.nil ?_
    refine Ext.seq ?_
    exact Cod.ret (Ext.seqR (Ext.ret rfl rfl ⟨by rw [mostR_no (.inl (by omega))]; rfl, rfl⟩))
  ·
    refine Ops.stG rfl rfl rfl (decide_eq_false h1) (.move rfl) rfl rfl ?_
    refine Ops.stG rfl rfl rfl (decide_eq_false h1) (.len rfl (Rd.ro hr) Try.runUnderlying22) rfl rfl ?_
    refine Ops.stG rfl rfl rfl (decide_eq_false h1) (.gtr rfl rfl) rfl rfl ?_
    refine Ops.st (.pickF rfl (decide_eq_false h1) rfl) rfl rfl rfl ?_
    refine Ops.st (.move rfl) rfl rfl rfl ?_
    refine Ops.splitD (t := 18) rfl (fun h2 => ?_) (fun h2 => ?_)
    ·
      refine Ops.skipG rfl rfl rfl (decide_eq_true h2) rfl rfl ?_
      refine Ops.skipG rfl rfl rfl (decide_eq_true h2) rfl rfl ?_
      refine Ops.st (.pickT rfl (decide_eq_true h2) rfl) rfl rfl rfl ?_
      refine Ops.nil ?_
      refine Ext.seq ?_
      refine Cod.condT rfl (by simp) ?_
      refine Cod.seq ?_
      refine Cod.region ?_
      refine Ops.st (.assign rfl) rfl rfl rfl ?_
      refine Ops.nil ?_
      refine Ext.seq ?_
      exact Cod.ret (Ext.seqR (Ext.ret rfl rfl ⟨by rw [mostR_no (.inr (.inl (by omega)))]; rfl, rfl⟩))
    ·
      refine Ops.stG rfl rfl rfl (decide_eq_false h2) (.move rfl) rfl rfl ?_
      refine Ops.stG rfl rfl rfl (decide_eq_false h2) (.gtr rfl rfl) rfl rfl ?_
      refine Ops.st (.pickF rfl (decide_eq_false h2) rfl) rfl rfl rfl ?_
      refine Ops.nil ?_
      refine Ext.seq ?_
      refine Cod.condD rfl (fun h3 => ?_) (fun h3 => ?_)
      ·
        refine Cod.seq ?_
        refine Cod.region ?_
        refine Ops.st (.assign rfl) rfl rfl rfl ?_
        refine Ops.nil ?_
        refine Ext.seq ?_
        exact Cod.ret (Ext.seqR (Ext.ret rfl rfl ⟨by rw [mostR_no (.inr (.inr (by omega)))]; rfl, rfl⟩))
      ·
        refine Cod.skip ?_
        refine Ext.seq ?_
        refine Cod.seq ?_
        refine Cod.region ?_
        rw [mostR_far (by omega) (by omega) (by omega : ¬ d > 4)]
        refine Ops.st (.assign rfl) rfl rfl rfl ?_
        refine Ops.nil ?_
        refine Ext.seq ?_
        refine Cod.seq ?_
        refine Cod.seq ?_
        refine Cod.region ?_
        refine Ops.st (.assign rfl) rfl rfl rfl ?_
        refine Ops.nil ?_
        refine Ext.seq ?_
        refine Cod.block ?_
        refine Cod.loop (fun g : Nat × Nat => ⟨g.1 ≤ fs.length ∧ g.2 ≤ 1048576 ∧ mostL d (fs.drop g.1) g.2 = mostL d fs 0, [(0, v), (1, .int .i64 d), (5, .int .i64 g.2), (6, .int .i64 g.1)], []⟩) (fun g => fs.length - g.1) (0, 0) ⟨Nat.zero_le _, Nat.zero_le _, rfl⟩ ⟨rfl, rfl, rfl, rfl, trivial⟩ (Ent.nil _) ?_
        rintro ⟨i, s⟩ ⟨hi, hs, hm⟩
        dsimp only
        refine Cod.seq ?_
        refine Cod.seq ?_
        refine Cod.region ?_
        dsimp only at hi hs hm
        refine Ops.st (.move rfl) rfl rfl rfl ?_
        refine Ops.st (.move rfl) rfl rfl rfl ?_
        refine Ops.st (.len rfl (Rd.ro hr) Try.runUnderlying22) rfl rfl rfl ?_
        refine Ops.st (.lss rfl rfl) rfl rfl rfl ?_
        refine Ops.nil ?_
        refine Ext.seq ?_
        refine Cod.condD rfl (fun h4 => ?_) (fun h4 => ?_)
        ·
          refine Cod.skip ?_
          refine Ext.seq ?_
          refine Cod.seq ?_
          refine Cod.block ?_
          refine Cod.seq ?_
          refine Cod.region ?_
          obtain ⟨k, mn, mx, of, hf⟩ : ∃ k mn mx of, fs[i]? = some (.mk k mn mx of) := by rcases he : fs[i]'(by omega) with ⟨k, mn, mx, of⟩; exact ⟨k, mn, mx, of, by rw [List.getElem?_eq_getElem (by omega), he]⟩
          obtain ⟨ov, ocs, hrow, hor, hoc⟩ := hc.get hf
          have hov := hor.sl
          have hol := hor.small
          rw [drop_get hf, mostL] at hm
          refine Ops.st (.move rfl) rfl rfl rfl ?_
          refine Ops.st (.move rfl) rfl rfl rfl ?_
          refine Ops.st (.indexAddr (j := i) (off := i * 4) rfl rfl (Rd.ro hr) Try.runUnderlying22 Try.sizeOf37 rfl (by omega) rfl) rfl rfl rfl ?_
          refine Ops.st (.load_elemA (ds := [.int .i64 k, W64 mn, W64 mx, ov]) rfl (Rd.ro hr) Try.isAgg37 Try.sizeOf37 (by omega) rfl (row_at hrow)) rfl rfl rfl ?_
          refine Ops.ef (.alloc Try.zeroValue37 rfl) rfl rfl rfl ?_
          rintro b _ ⟨b, rfl, rfl⟩
          refine Ops.ef10 (.storeA (vs := [.int .i64 k, W64 mn, W64 mx, ov]) (cs' := [.int .i64 k, W64 mn, W64 mx, ov]) rfl rfl (by repeat first | exact TakeP.here _ | apply TakeP.there) Try.sizeOf37 rfl (by decide) (by exact One.cons rfl (One.cons rfl (One.cons rfl (One.cons hov.one One.nil)))) rfl) rfl rfl ?_
          refine Ops.nil ?_
          refine Ext.seq ?_
          refine Cod.seq ?_
          refine Cod.cutK (fun _ : Unit => ⟨¬ (mx < mn ∨ (k ≠ 1 ∧ mx.toNat > 65536)) ∧ (k ≠ 3 → of = []), [(1, .int .i64 d), (0, v), (5, .int .i64 s), (6, .int .i64 i), (7, .pointer (some ⟨b, 0, none⟩))], [pt b 37 [.int .i64 k, W64 mn, W64 mx, ov]]⟩) ?_ ?_
          ·
            refine Cod.seq ?_
            refine Cod.region ?_
            refine Ops.st (.fieldAddr rfl fa37_1) rfl rfl rfl ?_
            refine Ops.st (.loadP rfl (by repeat first | exact TakeP.here _ | apply TakeP.there) Try.isAgg35 rfl) rfl rfl rfl ?_
            refine Ops.st (.fieldAddr rfl fa37_2) rfl rfl rfl ?_
            refine Ops.st (.loadP rfl (by repeat first | exact TakeP.here _ | apply TakeP.there) Try.isAgg35 rfl) rfl rfl rfl ?_
            refine Ops.st (.gtr rfl rfl) rfl rfl rfl ?_
            refine Ops.st (.move rfl) rfl rfl rfl ?_
            refine Ops.splitD (t := 37) rfl (fun a1 => ?_) (fun a1 => ?_)
            ·
              refine Ops.skipG rfl rfl rfl (decide_eq_true a1) rfl rfl ?_
              refine Ops.skipG rfl rfl rfl (decide_eq_true a1) rfl rfl ?_
              refine Ops.skipG rfl rfl rfl (decide_eq_true a1) rfl rfl ?_
              refine Ops.skipG rfl rfl rfl (decide_eq_true a1) rfl rfl ?_
              refine Ops.skipU rfl rfl rfl rfl rfl ?_
              refine Ops.skipU rfl rfl rfl rfl rfl ?_
              refine Ops.skipU rfl rfl rfl rfl rfl ?_
              refine Ops.skipU rfl rfl rfl rfl rfl ?_
              refine Ops.skipG rfl rfl rfl (decide_eq_true a1) rfl rfl ?_
              refine Ops.st (.pickT rfl (decide_eq_true a1) rfl) rfl rfl rfl ?_
              refine Ops.st (.move rfl) rfl rfl rfl ?_
              refine Ops.skipG rfl rfl rfl rfl rfl rfl ?_
              refine Ops.skipG rfl rfl rfl rfl rfl rfl ?_
              refine Ops.skipG rfl rfl rfl rfl rfl rfl ?_
              refine Ops.skipG rfl rfl rfl rfl rfl rfl ?_
              refine Ops.skipU rfl rfl rfl rfl rfl ?_
              refine Ops.skipU rfl rfl rfl rfl rfl ?_
              refine Ops.skipU rfl rfl rfl rfl rfl ?_
              refine Ops.skipG rfl rfl rfl rfl rfl rfl ?_
              refine Ops.st (.pickT rfl rfl rfl) rfl rfl rfl ?_
              refine Ops.nil ?_
              refine Ext.seq ?_
              refine Cod.condT rfl (by simp) ?_
              refine Cod.seq ?_
              refine Cod.region ?_
              refine Ops.st (.assign rfl) rfl rfl rfl ?_
              refine Ops.nil ?_
              refine Ext.seq ?_
              exact Cod.ret (Ext.stopR (Ext.blockR (Ext.seqR (Ext.stopR (Ext.blockR (Ext.seqR (Ext.retE rfl rfl (Ent.nil _) (⟨by rw [mostF_bad (.inl (UInt64.lt_iff_toNat_lt.2 (by omega)))] at hm; rw [← hm]; rfl, rfl⟩))))))))
            ·
              refine Ops.stG rfl rfl rfl (decide_eq_false a1) (.fieldAddr rfl fa37_0) rfl rfl ?_
              refine Ops.stG rfl rfl rfl (decide_eq_false a1) (.loadP rfl (by repeat first | exact TakeP.here _ | apply TakeP.there) Try.isAgg3 rfl) rfl rfl ?_
              refine Ops.stG rfl rfl rfl (decide_eq_false a1) (.neq rfl rfl) rfl rfl ?_
              refine Ops.stG rfl rfl rfl (decide_eq_false a1) (.move rfl) rfl rfl ?_
              refine Ops.splitD (t := 41) rfl (fun a2 => ?_) (fun a2 => ?_)
              ·
                refine Ops.stG rfl rfl rfl (decide_eq_true a2) (.fieldAddr rfl fa37_3) rfl rfl ?_
                refine Ops.stG rfl rfl rfl (decide_eq_true a2) (.loadP rfl (by repeat first | exact TakeP.here _ | apply TakeP.there) Try.isAgg22 rfl) rfl rfl ?_
                refine Ops.stG rfl rfl rfl (decide_eq_true a2) (.len rfl (Rd.ro hor) Try.runUnderlying22) rfl rfl ?_
                refine Ops.stG rfl rfl rfl (decide_eq_true a2) (.gtr rfl rfl) rfl rfl ?_
                refine Ops.stG rfl rfl rfl (decide_eq_false a1) (.pickT rfl (decide_eq_true a2) rfl) rfl rfl ?_
                refine Ops.st (.pickF rfl (decide_eq_false a1) rfl) rfl rfl rfl ?_
                refine Ops.st (.move rfl) rfl rfl rfl ?_
                refine Ops.splitD (t := 48) rfl (fun a3 => ?_) (fun a3 => ?_)
                ·
                  refine Ops.skipG rfl rfl rfl (decide_eq_true a3) rfl rfl ?_
                  refine Ops.skipG rfl rfl rfl (decide_eq_true a3) rfl rfl ?_
                  refine Ops.skipG rfl rfl rfl (decide_eq_true a3) rfl rfl ?_
                  refine Ops.skipG rfl rfl rfl (decide_eq_true a3) rfl rfl ?_
                  refine Ops.skipU rfl rfl rfl rfl rfl ?_
                  refine Ops.skipU rfl rfl rfl rfl rfl ?_
                  refine Ops.skipU rfl rfl rfl rfl rfl ?_
                  refine Ops.skipG rfl rfl rfl (decide_eq_true a3) rfl rfl ?_
                  refine Ops.st (.pickT rfl (decide_eq_true a3) rfl) rfl rfl rfl ?_
                  refine Ops.nil ?_
                  refine Ext.seq ?_
                  refine Cod.condT rfl (by simp) ?_
                  refine Cod.seq ?_
                  refine Cod.region ?_
                  refine Ops.st (.assign rfl) rfl rfl rfl ?_
                  refine Ops.nil ?_
                  refine Ext.seq ?_
                  exact Cod.ret (Ext.stopR (Ext.blockR (Ext.seqR (Ext.stopR (Ext.blockR (Ext.seqR (Ext.retE rfl rfl (Ent.nil _) (⟨by rw [mostF_bad (.inr (.inl ⟨a2, fun x => by rw [x] at a3; simp at a3⟩))] at hm; rw [← hm]; rfl, rfl⟩))))))))
                ·
                  refine Ops.stG rfl rfl rfl (decide_eq_false a3) (.fieldAddr rfl fa37_0) rfl rfl ?_
                  refine Ops.stG rfl rfl rfl (decide_eq_false a3) (.loadP rfl (by repeat first | exact TakeP.here _ | apply TakeP.there) Try.isAgg3 rfl) rfl rfl ?_
                  refine Ops.stG rfl rfl rfl (decide_eq_false a3) (.neq rfl rfl) rfl rfl ?_
                  refine Ops.stG rfl rfl rfl (decide_eq_false a3) (.move rfl) rfl rfl ?_
                  refine Ops.splitD (t := 52) rfl (fun a4 => ?_) (fun a4 => ?_)
                  ·
                    refine Ops.stG rfl rfl rfl (decide_eq_true a4) (.fieldAddr rfl fa37_2) rfl rfl ?_
                    refine Ops.stG rfl rfl rfl (decide_eq_true a4) (.loadP rfl (by repeat first | exact TakeP.here _ | apply TakeP.there) Try.isAgg35 rfl) rfl rfl ?_
                    refine Ops.stG rfl rfl rfl (decide_eq_true a4) (.gtr rfl rfl) rfl rfl ?_
                    refine Ops.stG rfl rfl rfl (decide_eq_false a3) (.pickT rfl (decide_eq_true a4) rfl) rfl rfl ?_
                    refine Ops.st (.pickF rfl (decide_eq_false a3) rfl) rfl rfl rfl ?_
                    refine Ops.nil ?_
                    refine Ext.seq ?_
                    refine Cod.condD rfl (fun a5 => ?_) (fun a5 => ?_)
                    ·
                      refine Cod.seq ?_
                      refine Cod.region ?_
                      refine Ops.st (.assign rfl) rfl rfl rfl ?_
                      refine Ops.nil ?_
                      refine Ext.seq ?_
                      exact Cod.ret (Ext.stopR (Ext.blockR (Ext.seqR (Ext.stopR (Ext.blockR (Ext.seqR (Ext.retE rfl rfl (Ent.nil _) (⟨by rw [mostF_bad (.inr (.inr (.inl ⟨a4, by omega⟩)))] at hm; rw [← hm]; rfl, rfl⟩))))))))
                    ·
                      refine Cod.skip ?_
                      exact Ext.at_ () ⟨by rw [UInt64.lt_iff_toNat_lt]; omega, fun _ => List.eq_nil_of_length_eq_zero (by omega)⟩ ⟨rfl, rfl, rfl, rfl, rfl, trivial⟩ (Ent.take (by repeat' first | exact Takes.nil _ | exact TakeP.here _ | apply TakeP.there | apply Takes.cons))
                  ·
                    refine Ops.skipG rfl rfl rfl (decide_eq_false a4) rfl rfl ?_
                    refine Ops.skipG rfl rfl rfl (decide_eq_false a4) rfl rfl ?_
                    refine Ops.skipG rfl rfl rfl (decide_eq_false a4) rfl rfl ?_
                    refine Ops.stG rfl rfl rfl (decide_eq_false a3) (.pickF rfl (decide_eq_false a4) rfl) rfl rfl ?_
                    refine Ops.st (.pickF rfl (decide_eq_false a3) rfl) rfl rfl rfl ?_
                    refine Ops.nil ?_
                    refine Ext.seq ?_
                    refine Cod.condF rfl (by simp) ?_
                    refine Cod.skip ?_
                    exact Ext.at_ () ⟨by rw [UInt64.lt_iff_toNat_lt]; omega, fun _ => List.eq_nil_of_length_eq_zero (by omega)⟩ ⟨rfl, rfl, rfl, rfl, rfl, trivial⟩ (Ent.take (by repeat' first | exact Takes.nil _ | exact TakeP.here _ | apply TakeP.there | apply Takes.cons))
              ·
                refine Ops.skipG rfl rfl rfl (decide_eq_false a2) rfl rfl ?_
                refine Ops.skipG rfl rfl rfl (decide_eq_false a2) rfl rfl ?_
                refine Ops.skipG rfl rfl rfl (decide_eq_false a2) rfl rfl ?_
                refine Ops.skipG rfl rfl rfl (decide_eq_false a2) rfl rfl ?_
                refine Ops.stG rfl rfl rfl (decide_eq_false a1) (.pickF rfl (decide_eq_false a2) rfl) rfl rfl ?_
                refine Ops.st (.pickF rfl (decide_eq_false a1) rfl) rfl rfl rfl ?_
                refine Ops.st (.move rfl) rfl rfl rfl ?_
                refine Ops.stG rfl rfl rfl rfl (.fieldAddr rfl fa37_0) rfl rfl ?_
                refine Ops.stG rfl rfl rfl rfl (.loadP rfl (by repeat first | exact TakeP.here _ | apply TakeP.there) Try.isAgg3 rfl) rfl rfl ?_
                refine Ops.stG rfl rfl rfl rfl (.neq rfl rfl) rfl rfl ?_
                refine Ops.stG rfl rfl rfl rfl (.move rfl) rfl rfl ?_
                refine Ops.splitD (t := 52) rfl (fun a4 => ?_) (fun a4 => ?_)
                ·
                  refine Ops.stG rfl rfl rfl (decide_eq_true a4) (.fieldAddr rfl fa37_2) rfl rfl ?_
                  refine Ops.stG rfl rfl rfl (decide_eq_true a4) (.loadP rfl (by repeat first | exact TakeP.here _ | apply TakeP.there) Try.isAgg35 rfl) rfl rfl ?_
                  refine Ops.stG rfl rfl rfl (decide_eq_true a4) (.gtr rfl rfl) rfl rfl ?_
                  refine Ops.stG rfl rfl rfl rfl (.pickT rfl (decide_eq_true a4) rfl) rfl rfl ?_
                  refine Ops.st (.pickF rfl rfl rfl) rfl rfl rfl ?_
                  refine Ops.nil ?_
                  refine Ext.seq ?_
                  refine Cod.condD rfl (fun a5 => ?_) (fun a5 => ?_)
                  ·
                    refine Cod.seq ?_
                    refine Cod.region ?_
                    refine Ops.st (.assign rfl) rfl rfl rfl ?_
                    refine Ops.nil ?_
                    refine Ext.seq ?_
                    exact Cod.ret (Ext.stopR (Ext.blockR (Ext.seqR (Ext.stopR (Ext.blockR (Ext.seqR (Ext.retE rfl rfl (Ent.nil _) (⟨by rw [mostF_bad (.inr (.inr (.inl ⟨a4, by omega⟩)))] at hm; rw [← hm]; rfl, rfl⟩))))))))
                  ·
                    refine Cod.skip ?_
                    exact Ext.at_ () ⟨by rw [UInt64.lt_iff_toNat_lt]; omega, fun h => absurd h a2⟩ ⟨rfl, rfl, rfl, rfl, rfl, trivial⟩ (Ent.take (by repeat' first | exact Takes.nil _ | exact TakeP.here _ | apply TakeP.there | apply Takes.cons))
                ·
                  refine Ops.skipG rfl rfl rfl (decide_eq_false a4) rfl rfl ?_
                  refine Ops.skipG rfl rfl rfl (decide_eq_false a4) rfl rfl ?_
                  refine Ops.skipG rfl rfl rfl (decide_eq_false a4) rfl rfl ?_
                  refine Ops.stG rfl rfl rfl rfl (.pickF rfl (decide_eq_false a4) rfl) rfl rfl ?_
                  refine Ops.st (.pickF rfl rfl rfl) rfl rfl rfl ?_
                  refine Ops.nil ?_
                  refine Ext.seq ?_
                  refine Cod.condF rfl (by simp) ?_
                  refine Cod.skip ?_
                  exact Ext.at_ () ⟨by rw [UInt64.lt_iff_toNat_lt]; omega, fun h => absurd h a2⟩ ⟨rfl, rfl, rfl, rfl, rfl, trivial⟩ (Ent.take (by repeat' first | exact Takes.nil _ | exact TakeP.here _ | apply TakeP.there | apply Takes.cons))
          ·
            rintro _ ⟨hno, hof⟩
            dsimp only
            refine Cod.seq ?_
            refine Cod.region ?_
            have hwl := wid_le (mx - mn).toNat
            refine Ops.st (.fieldAddr rfl fa37_2) rfl rfl rfl ?_
            refine Ops.st (.loadP rfl (by repeat first | exact TakeP.here _ | apply TakeP.there) Try.isAgg35 rfl) rfl rfl rfl ?_
            refine Ops.st (.fieldAddr rfl fa37_1) rfl rfl rfl ?_
            refine Ops.st (.loadP rfl (by repeat first | exact TakeP.here _ | apply TakeP.there) Try.isAgg35 rfl) rfl rfl rfl ?_
            refine Ops.st (.subW64 rfl rfl) rfl rfl rfl ?_
            refine Ops.call ⟨Try.call34⟩ rfl rfl rfl (by repeat' first | exact Takes.nil _ | exact TakeP.here _ | apply TakeP.there | apply Takes.cons) (fun F' hF => refWidth_any) rfl rfl rfl ?_
            rintro _ _ ⟨rfl, rfl⟩
            refine Ops.st (.assign rfl) rfl rfl rfl ?_
            refine Ops.nil ?_
            refine Ext.seq ?_
            refine Cod.seq ?_
            refine Cod.cutK (fun w2 : Nat => ⟨mostF d (.mk k mn mx of) = some w2 ∧ w2 ≤ 8 + 65536 * 1048576, [(1, .int .i64 d), (0, v), (5, .int .i64 s), (6, .int .i64 i), (8, .int .i64 w2)], []⟩) ?_ ?_
            ·
              refine Cod.seq ?_
              refine Cod.region ?_
              refine Ops.st (.fieldAddr rfl fa37_0) rfl rfl rfl ?_
              refine Ops.st (.loadP rfl (by repeat first | exact TakeP.here _ | apply TakeP.there) Try.isAgg3 rfl) rfl rfl rfl ?_
              refine Ops.nil ?_
              refine Ext.seq ?_
              refine Cod.block ?_
              refine Cod.seq ?_
              refine Cod.region ?_
              refine Ops.st (.eql rfl rfl) rfl rfl rfl ?_
              refine Ops.st (.assign rfl) rfl rfl rfl ?_
              refine Ops.nil ?_
              refine Ext.seq ?_
              refine Cod.condD rfl (fun k1 => ?_) (fun k1 => ?_)
              ·
                refine Cod.skip ?_
                refine Ext.block ?_
                exact Ext.at_ (wid (mx - mn).toNat) ⟨by rw [mostF_good hno (by rw [eachF, if_pos k1, if_pos (hof (by omega))]), if_neg (fun h => h k1)]; rfl, by omega⟩ ⟨rfl, rfl, rfl, rfl, rfl, trivial⟩ (Ent.nil _)
              ·
                refine Cod.seq ?_
                refine Cod.region ?_
                refine Ops.st (.eql rfl rfl) rfl rfl rfl ?_
                refine Ops.st (.assign rfl) rfl rfl rfl ?_
                refine Ops.nil ?_
                refine Ext.seq ?_
                refine Cod.condD rfl (fun k2 => ?_) (fun k2 => ?_)
                ·
                  refine Cod.region ?_
                  refine Ops.st (.move rfl) rfl rfl rfl ?_
                  refine Ops.st (.fieldAddr rfl fa37_2) rfl rfl rfl ?_
                  refine Ops.st (.loadP rfl (by repeat first | exact TakeP.here _ | apply TakeP.there) Try.isAgg35 rfl) rfl rfl rfl ?_
                  refine Ops.st (.conv rfl Try.runUnderlying35 Try.runUnderlying3 (by first | exact IntWalk.i64_in _ (by omega) | rfl)) rfl rfl rfl ?_
                  refine Ops.st (.add rfl rfl (by first | exact IntWalk.i64_in _ (by omega) | rfl)) rfl rfl rfl ?_
                  refine Ops.st (.assign rfl) rfl rfl rfl ?_
                  refine Ops.nil ?_
                  refine Ext.block ?_
                  exact Ext.at_ (wid (mx - mn).toNat + mx.toNat) ⟨by rw [mostF_good hno (by rw [eachF, if_neg k1, if_pos k2, if_pos (hof (by omega))]), if_pos k1, Nat.mul_one], by omega⟩ ⟨rfl, rfl, rfl, rfl, rfl, trivial⟩ (Ent.nil _)
                ·
                  refine Cod.seq ?_
                  refine Cod.region ?_
                  refine Ops.st (.eql rfl rfl) rfl rfl rfl ?_
                  refine Ops.st (.assign rfl) rfl rfl rfl ?_
                  refine Ops.nil ?_
                  refine Ext.seq ?_
                  refine Cod.condD rfl (fun k3 => ?_) (fun k3 => ?_)
                  ·
                    refine Cod.seq ?_
                    refine Cod.region ?_
                    refine Ops.st (.fieldAddr rfl fa37_3) rfl rfl rfl ?_
                    refine Ops.st (.loadP rfl (by repeat first | exact TakeP.here _ | apply TakeP.there) Try.isAgg22 rfl) rfl rfl rfl ?_
                    refine Ops.st (.move rfl) rfl rfl rfl ?_
                    refine Ops.st (.add rfl rfl (by first | exact IntWalk.i64_in _ (by omega) | rfl)) rfl rfl rfl ?_
                    refine Ops.call ⟨Try.call30⟩ rfl rfl rfl (by repeat' first | exact Takes.nil _ | exact TakeP.here _ | apply TakeP.there | apply Takes.cons) (fun F' hF => ih (by omega) (hor.mono hF.hf) (hoc.mono hF.hf of)) rfl rfl rfl ?_
                    rintro _ _ ⟨rfl, rfl⟩
                    refine Ops.st (.assign rfl) rfl rfl rfl ?_
                    refine Ops.nil ?_
                    refine Ext.seq ?_
                    refine Cod.seq ?_
                    refine Cod.seq ?_
                    refine Cod.region ?_
                    refine Ops.st (.move rfl) rfl rfl rfl ?_
                    refine Ops.st (.gtr rfl rfl) rfl rfl rfl ?_
                    refine Ops.nil ?_
                    refine Ext.seq ?_
                    refine Cod.condD rfl (fun e1 => ?_) (fun e1 => ?_)
                    ·
                      refine Cod.seq ?_
                      refine Cod.region ?_
                      refine Ops.st (.assign rfl) rfl rfl rfl ?_
                      refine Ops.nil ?_
                      refine Ext.seq ?_
                      exact Cod.ret (Ext.seqR (Ext.blockR (Ext.stopR (Ext.blockR (Ext.seqR (Ext.stopR (Ext.blockR (Ext.seqR (Ext.retE rfl rfl (Ent.nil _) (⟨by cases hq : mostR (d + 1) of; rw [mostF_eq, eachF, if_neg k1, if_neg k2, if_pos k3, hq] at hm; rw [← hm]; rfl; have := mostR_le hq; rw [hq] at e1; simp only [Option.getD_some] at e1; omega, rfl⟩))))))))))
                    ·
                      refine Cod.skip ?_
                      refine Ext.seq ?_
                      obtain ⟨e, hq⟩ : ∃ e, mostR (d + 1) of = some e := by cases hq : mostR (d + 1) of; rw [hq] at e1; exact absurd (by decide) e1; exact ⟨_, rfl⟩
                      rw [hq]
                      have hel := mostR_le hq
                      have hmn : mx.toNat * e ≤ 65536 * 1048576 := Nat.mul_le_mul (by omega) hel
                      simp only [Option.getD_some]
                      refine Cod.region ?_
                      refine Ops.st (.move rfl) rfl rfl rfl ?_
                      refine Ops.st (.fieldAddr rfl fa37_2) rfl rfl rfl ?_
                      refine Ops.st (.loadP rfl (by repeat first | exact TakeP.here _ | apply TakeP.there) Try.isAgg35 rfl) rfl rfl rfl ?_
                      refine Ops.st (.conv rfl Try.runUnderlying35 Try.runUnderlying3 (by first | exact IntWalk.i64_in _ (by omega) | rfl)) rfl rfl rfl ?_
                      refine Ops.st (.move rfl) rfl rfl rfl ?_
                      refine Ops.st (.mul (r := ((mx.toNat * e : Nat) : Int)) rfl rfl (by rw [IntWalk.i64_in _ (by rw [← Int.natCast_mul]; omega)]; exact (Int.natCast_mul ..).symm)) rfl rfl rfl ?_
                      refine Ops.st (.add rfl rfl (by first | exact IntWalk.i64_in _ (by omega) | rfl)) rfl rfl rfl ?_
                      refine Ops.st (.assign rfl) rfl rfl rfl ?_
                      refine Ops.nil ?_
                      refine Ext.block ?_
                      exact Ext.at_ (wid (mx - mn).toNat + mx.toNat * e) ⟨by rw [mostF_good hno (by rw [eachF, if_neg k1, if_neg k2, if_pos k3, hq]), if_pos k1], by omega⟩ ⟨rfl, rfl, rfl, rfl, rfl, trivial⟩ (Ent.nil _)
                  ·
                    refine Cod.seq ?_
                    refine Cod.region ?_
                    refine Ops.st (.assign rfl) rfl rfl rfl ?_
                    refine Ops.nil ?_
                    refine Ext.seq ?_
                    exact Cod.ret (Ext.blockR (Ext.stopR (Ext.blockR (Ext.seqR (Ext.stopR (Ext.blockR (Ext.seqR (Ext.retE rfl rfl (Ent.nil _) (⟨by rw [mostF_bad (.inr (.inr (.inr ⟨k1, k2, k3⟩)))] at hm; rw [← hm]; rfl, rfl⟩)))))))))
            ·
              rintro w2 ⟨hw2, hw3⟩
              dsimp only
              refine Cod.seq ?_
              refine Cod.region ?_
              rw [hw2] at hm
              simp only at hm
              refine Ops.st (.move rfl) rfl rfl rfl ?_
              refine Ops.st (.move rfl) rfl rfl rfl ?_
              refine Ops.st (.add rfl rfl (by first | exact IntWalk.i64_in _ (by omega) | rfl)) rfl rfl rfl ?_
              refine Ops.st (.assign rfl) rfl rfl rfl ?_
              refine Ops.nil ?_
              refine Ext.seq ?_
              refine Cod.seq ?_
              refine Cod.region ?_
              refine Ops.st (.move rfl) rfl rfl rfl ?_
              refine Ops.st (.gtr rfl rfl) rfl rfl rfl ?_
              refine Ops.nil ?_
              refine Ext.seq ?_
              refine Cod.condD rfl (fun e5 => ?_) (fun e5 => ?_)
              ·
                refine Cod.seq ?_
                refine Cod.region ?_
                refine Ops.st (.assign rfl) rfl rfl rfl ?_
                refine Ops.nil ?_
                refine Ext.seq ?_
                exact Cod.ret (Ext.blockR (Ext.seqR (Ext.stopR (Ext.blockR (Ext.seqR (Ext.ret rfl rfl ⟨by rw [if_pos (by omega)] at hm; rw [← hm]; rfl, rfl⟩))))))
              ·
                refine Cod.skip ?_
                refine Ext.block ?_
                refine Ext.seq ?_
                refine Cod.region ?_
                rw [if_neg (by omega)] at hm
                refine Ops.st (.move rfl) rfl rfl rfl ?_
                refine Ops.st (.add rfl rfl (by first | exact IntWalk.i64_in _ (by omega) | rfl)) rfl rfl rfl ?_
                refine Ops.st (.assign rfl) rfl rfl rfl ?_
                refine Ops.nil ?_
                exact Ext.back (i + 1, s + w2) (by dsimp only; omega) ⟨by dsimp only; omega, by dsimp only; omega, hm⟩ ⟨rfl, rfl, rfl, rfl, trivial⟩ (Ent.nil _)
        ·
          refine Cod.exit (Ext.seqX (Ext.stopX (Ext.hit ?_)))
          refine Ext.seq ?_
          refine Cod.seq ?_
          refine Cod.region ?_
          obtain rfl : i = fs.length := by omega
          rw [List.drop_length, mostL] at hm
          rw [← hm]
          refine Ops.st (.move rfl) rfl rfl rfl ?_
          refine Ops.st (.assign rfl) rfl rfl rfl ?_
          refine Ops.nil ?_
          refine Ext.seq ?_
          exact Cod.ret (Ext.ret rfl rfl ⟨rfl, rfl⟩)
theorem refMost_any : ∀ (n d : Nat), d + n = 5 → ∀ {F : Fr} {v : Value} {cs : List Value} {fs : List Fld}, SlR F.hf v 4 fs.length cs → FldsR F.hf fs cs →
    Spec Try.prog F 30 [v, .int .i64 (d : Int)] [] (fun u hs' => u = .int .i64 ((mostR d fs).getD 1048577 : Nat) ∧ hs' = [])
  | 0, d, h, F, v, cs, fs, hr, hc => refMost_step (fun h4 => absurd h4 (by omega)) hr hc
  | n + 1, d, h, F, v, cs, fs, hr, hc => refMost_step (fun _ {F v cs fs} hr hc => refMost_any n (d + 1) (by omega) hr hc) hr hc

section
variable {F : Fr} {v : Value} {cs : List Value} {fs : List Fld}
theorem right_any (hr : SlR F.hf v 4 fs.length cs) (hc : FldsR F.hf fs cs) : Spec Try.prog F 17 [v] [] (fun u hs' => u = .bool (mostR 1 fs).isSome ∧ hs' = []) := by
  refine Spec.body Try.func17 rfl Try.ntmps17 rfl ?_
  refine Cod.seq ?_
  refine Cod.region ?_
  refine Ops.st (.assign rfl) rfl rfl rfl ?_
  refine Ops.nil ?_
  refine Ext.seq ?_
  refine Cod.seq ?_
  refine Cod.region ?_
  refine Ops.st (.move rfl) rfl rfl rfl ?_
  refine Ops.call ⟨Try.call29⟩ rfl rfl rfl (by repeat' first | exact Takes.nil _ | exact TakeP.here _ | apply TakeP.there | apply Takes.cons) (fun F' hF => most_any 4 1 rfl (hr.mono hF.hf) (hc.mono hF.hf fs)) rfl rfl rfl ?_
  rintro _ _ ⟨rfl, rfl⟩
  refine Ops.st (.move rfl) rfl rfl rfl ?_
  refine Ops.st (.extract rfl rfl) rfl rfl rfl ?_
  refine Ops.st (.extract rfl rfl) rfl rfl rfl ?_
  refine Ops.st (.assign rfl) rfl rfl rfl ?_
  refine Ops.st (.assign rfl) rfl rfl rfl ?_
  refine Ops.nil ?_
  refine Ext.seq ?_
  refine Cod.seq ?_
  refine Cod.region ?_
  refine Ops.st (.move rfl) rfl rfl rfl ?_
  refine Ops.st (.assign rfl) rfl rfl rfl ?_
  refine Ops.nil ?_
  refine Ext.seq ?_
  exact Cod.ret (Ext.ret rfl rfl ⟨rfl, rfl⟩)
theorem packMost_any (hr : SlR F.hf v 4 fs.length cs) (hc : FldsR F.hf fs cs) : Spec Try.prog F 19 [v] [] (fun u hs' => u = .int .i64 ((mostR 1 fs).getD 0 : Nat) ∧ hs' = []) := by
  refine Spec.body Try.func19 rfl Try.ntmps19 rfl ?_
  refine Cod.seq ?_
  refine Cod.region ?_
  refine Ops.st (.assign rfl) rfl rfl rfl ?_
  refine Ops.nil ?_
  refine Ext.seq ?_
  refine Cod.seq ?_
  refine Cod.region ?_
  refine Ops.st (.move rfl) rfl rfl rfl ?_
  refine Ops.call ⟨Try.call29⟩ rfl rfl rfl (by repeat' first | exact Takes.nil _ | exact TakeP.here _ | apply TakeP.there | apply Takes.cons) (fun F' hF => most_any 4 1 rfl (hr.mono hF.hf) (hc.mono hF.hf fs)) rfl rfl rfl ?_
  rintro _ _ ⟨rfl, rfl⟩
  refine Ops.st (.move rfl) rfl rfl rfl ?_
  refine Ops.st (.extract rfl rfl) rfl rfl rfl ?_
  refine Ops.st (.extract rfl rfl) rfl rfl rfl ?_
  refine Ops.st (.assign rfl) rfl rfl rfl ?_
  refine Ops.st (.assign rfl) rfl rfl rfl ?_
  refine Ops.nil ?_
  refine Ext.seq ?_
  refine Cod.seq ?_
  refine Cod.region ?_
  refine Ops.st (.move rfl) rfl rfl rfl ?_
  refine Ops.st (.assign rfl) rfl rfl rfl ?_
  refine Ops.nil ?_
  refine Ext.seq ?_
  exact Cod.ret (Ext.ret rfl rfl ⟨rfl, rfl⟩)
theorem refRight_any (hr : SlR F.hf v 4 fs.length cs) (hc : FldsR F.hf fs cs) : Spec Try.prog F 18 [v] [] (fun u hs' => u = .bool (mostR 1 fs).isSome ∧ hs' = []) := by
  refine Spec.body Try.func18 rfl Try.ntmps18 rfl ?_
  refine Cod.seq ?_
  refine Cod.region ?_
  refine Ops.st (.assign rfl) rfl rfl rfl ?_
  refine Ops.nil ?_
  refine Ext.seq ?_
  refine Cod.seq ?_
  refine Cod.region ?_
  refine Ops.st (.move rfl) rfl rfl rfl ?_
  refine Ops.call ⟨Try.call30⟩ rfl rfl rfl (by repeat' first | exact Takes.nil _ | exact TakeP.here _ | apply TakeP.there | apply Takes.cons) (fun F' hF => refMost_any 4 1 rfl (hr.mono hF.hf) (hc.mono hF.hf fs)) rfl rfl rfl ?_
  rintro _ _ ⟨rfl, rfl⟩
  refine Ops.st (.leq rfl rfl) rfl rfl rfl ?_
  refine Ops.st (.assign rfl) rfl rfl rfl ?_
  refine Ops.nil ?_
  refine Ext.seq ?_
  exact Cod.ret (Ext.ret rfl rfl ⟨by cases hq : mostR 1 fs; rfl; have := mostR_le hq; simp only [Option.getD_some, Option.isSome_some]; rw [decide_eq_true (by omega)], rfl⟩)
theorem refMostA_any (hr : SlR F.hf v 4 fs.length cs) (hc : FldsR F.hf fs cs) : Spec Try.prog F 20 [v] [] (fun u hs' => u = .int .i64 ((mostR 1 fs).getD 0 : Nat) ∧ hs' = []) := by
  refine Spec.body Try.func20 rfl Try.ntmps20 rfl ?_
  refine Cod.seq ?_
  refine Cod.region ?_
  refine Ops.st (.assign rfl) rfl rfl rfl ?_
  refine Ops.nil ?_
  refine Ext.seq ?_
  refine Cod.seq ?_
  refine Cod.region ?_
  refine Ops.st (.move rfl) rfl rfl rfl ?_
  refine Ops.call ⟨Try.call30⟩ rfl rfl rfl (by repeat' first | exact Takes.nil _ | exact TakeP.here _ | apply TakeP.there | apply Takes.cons) (fun F' hF => refMost_any 4 1 rfl (hr.mono hF.hf) (hc.mono hF.hf fs)) rfl rfl rfl ?_
  rintro _ _ ⟨rfl, rfl⟩
  refine Ops.st (.assign rfl) rfl rfl rfl ?_
  refine Ops.nil ?_
  refine Ext.seq ?_
  refine Cod.seq ?_
  refine Cod.seq ?_
  refine Cod.region ?_
  refine Ops.st (.move rfl) rfl rfl rfl ?_
  refine Ops.st (.gtr rfl rfl) rfl rfl rfl ?_
  refine Ops.nil ?_
  refine Ext.seq ?_
  refine Cod.condD rfl (fun h => ?_) (fun h => ?_)
  ·
    refine Cod.seq ?_
    refine Cod.region ?_
    refine Ops.st (.assign rfl) rfl rfl rfl ?_
    refine Ops.nil ?_
    refine Ext.seq ?_
    exact Cod.ret (Ext.seqR (Ext.ret rfl rfl ⟨by cases hq : mostR 1 fs; rfl; have := mostR_le hq; rw [hq] at h; simp only [Option.getD_some] at h; omega, rfl⟩))
  ·
    refine Cod.skip ?_
    refine Ext.seq ?_
    refine Cod.seq ?_
    refine Cod.region ?_
    refine Ops.st (.move rfl) rfl rfl rfl ?_
    refine Ops.st (.assign rfl) rfl rfl rfl ?_
    refine Ops.nil ?_
    refine Ext.seq ?_
    exact Cod.ret (Ext.ret rfl rfl ⟨by cases hq : mostR 1 fs; rw [hq] at h; exact absurd (by decide) h; rfl, rfl⟩)
end

theorem fields_step {d : Nat} (ih : d ≤ 6 → ∀ {F : Fr} {v : Value} {cs : List Value} {fs : List Fld}, SlR F.hf v 4 fs.length cs → FldsR F.hf fs cs → Spec Try.prog F 16 [v, .int .i64 ((d + 1 : Nat) : Int)] [] (fun u hs' => (∃ b, u = .bool b) ∧ hs' = []))
    {F : Fr} {v : Value} {cs : List Value} {fs : List Fld} (hr : SlR F.hf v 4 fs.length cs) (hc : FldsR F.hf fs cs) :
    Spec Try.prog F 16 [v, .int .i64 (d : Int)] [] (fun u hs' => (∃ b, u = .bool b) ∧ hs' = []) := by
  refine Spec.body Try.func16 rfl Try.ntmps16 rfl ?_
  refine Cod.seq ?_
  refine Cod.region ?_
  refine Ops.st (.assign rfl) rfl rfl rfl ?_
  refine Ops.nil ?_
  refine Ext.seq ?_
  refine Cod.seq ?_
  refine Cod.seq ?_
  refine Cod.region ?_
  refine Ops.st (.move rfl) rfl rfl rfl ?_
  refine Ops.st (.len rfl (Rd.ro hr) Try.runUnderlying22) rfl rfl rfl ?_
  refine Ops.st (.gtr rfl rfl) rfl rfl rfl ?_
  refine Ops.st (.move rfl) rfl rfl rfl ?_
  refine Ops.splitD (t := 11) rfl (fun h1 => ?_) (fun h1 => ?_)
  ·
    refine Ops.skipG rfl rfl rfl (decide_eq_true h1) rfl rfl ?_
    refine Ops.skipG rfl rfl rfl (decide_eq_true h1) rfl rfl ?_
    refine Ops.st (.pickT rfl (decide_eq_true h1) rfl) rfl rfl rfl ?_
    refine Ops.nil ?_
    refine Ext.seq ?_
    refine Cod.condT rfl (by simp) ?_
    refine Cod.seq ?_
    refine Cod.region ?_
    refine Ops.st (.assign rfl) rfl rfl rfl ?_
    refine Ops.nil ?_
    refine Ext.seq ?_
    exact Cod.ret (Ext.seqR (Ext.ret rfl rfl ⟨⟨_, rfl⟩, rfl⟩))
  ·
    refine Ops.stG rfl rfl rfl (decide_eq_false h1) (.move rfl) rfl rfl ?_
    refine Ops.stG rfl rfl rfl (decide_eq_false h1) (.gtr rfl rfl) rfl rfl ?_
    refine Ops.st (.pickF rfl (decide_eq_false h1) rfl) rfl rfl rfl ?_
    refine Ops.nil ?_
    refine Ext.seq ?_
    refine Cod.condD rfl (fun h2 => ?_) (fun h2 => ?_)
    ·
      refine Cod.seq ?_
      refine Cod.region ?_
      refine Ops.st (.assign rfl) rfl rfl rfl ?_
      refine Ops.nil ?_
      refine Ext.seq ?_
      exact Cod.ret (Ext.seqR (Ext.ret rfl rfl ⟨⟨_, rfl⟩, rfl⟩))
    ·
      refine Cod.skip ?_
      refine Ext.seq ?_
      refine Cod.seq ?_
      refine Cod.region ?_
      refine Ops.st (.assign rfl) rfl rfl rfl ?_
      refine Ops.nil ?_
      refine Ext.seq ?_
      refine Cod.seq ?_
      refine Cod.seq ?_
      refine Cod.region ?_
      refine Ops.st (.assign rfl) rfl rfl rfl ?_
      refine Ops.nil ?_
      refine Ext.seq ?_
      refine Cod.block ?_
      refine Cod.loop (fun g : Nat × Nat => ⟨g.1 ≤ fs.length ∧ g.2 ≤ g.1, [(0, v), (1, .int .i64 d), (5, .int .i64 g.2), (6, .int .i64 g.1)], []⟩) (fun g => fs.length - g.1) (0, 0) ⟨Nat.zero_le _, Nat.zero_le _⟩ ⟨rfl, rfl, rfl, rfl, trivial⟩ (Ent.nil _) ?_
      rintro ⟨i, s⟩ ⟨hi, hs⟩
      dsimp only
      refine Cod.seq ?_
      refine Cod.seq ?_
      refine Cod.region ?_
      dsimp only at hi hs
      refine Ops.st (.move rfl) rfl rfl rfl ?_
      refine Ops.st (.move rfl) rfl rfl rfl ?_
      refine Ops.st (.len rfl (Rd.ro hr) Try.runUnderlying22) rfl rfl rfl ?_
      refine Ops.st (.lss rfl rfl) rfl rfl rfl ?_
      refine Ops.nil ?_
      refine Ext.seq ?_
      refine Cod.condD rfl (fun h4 => ?_) (fun h4 => ?_)
      ·
        refine Cod.skip ?_
        refine Ext.seq ?_
        refine Cod.seq ?_
        refine Cod.block ?_
        refine Cod.seq ?_
        refine Cod.cutK (fun n : Nat => ⟨n ≤ i + 1, [(0, v), (1, .int .i64 d), (5, .int .i64 n), (6, .int .i64 i)], []⟩) ?_ ?_
        ·
          refine Cod.seq ?_
          refine Cod.region ?_
          obtain ⟨k, mn, mx, of, hf⟩ : ∃ k mn mx of, fs[i]? = some (.mk k mn mx of) := by rcases he : fs[i]'(by omega) with ⟨k, mn, mx, of⟩; exact ⟨k, mn, mx, of, by rw [List.getElem?_eq_getElem (by omega), he]⟩
          obtain ⟨ov, ocs, hrow, hor, hoc⟩ := hc.get hf
          have hol := hor.small
          refine Ops.st (.move rfl) rfl rfl rfl ?_
          refine Ops.st (.move rfl) rfl rfl rfl ?_
          refine Ops.st (.indexAddr (j := i) (off := i * 4) rfl rfl (Rd.ro hr) Try.runUnderlying22 Try.sizeOf37 rfl (by omega) rfl) rfl rfl rfl ?_
          refine Ops.st (.fieldAddr_elem (j := i * 4 + 3) rfl (Rd.ro hr) fa37_3 (by omega) rfl) rfl rfl rfl ?_
          refine Ops.st (.load_elem rfl (Rd.ro hr) Try.isAgg22 (row_at hrow 3 ov rfl)) rfl rfl rfl ?_
          refine Ops.st (.len rfl (Rd.ro hor) Try.runUnderlying22) rfl rfl rfl ?_
          refine Ops.st (.gtr rfl rfl) rfl rfl rfl ?_
          refine Ops.nil ?_
          refine Ext.seq ?_
          refine Cod.condD rfl (fun h5 => ?_) (fun h5 => ?_)
          ·
            refine Cod.region ?_
            refine Ops.st (.move rfl) rfl rfl rfl ?_
            refine Ops.st (.add rfl rfl (by first | exact IntWalk.i64_in _ (by omega) | rfl)) rfl rfl rfl ?_
            refine Ops.st (.assign rfl) rfl rfl rfl ?_
            refine Ops.nil ?_
            exact Ext.at_ (s + 1) (by dsimp only; omega) ⟨rfl, rfl, rfl, rfl, trivial⟩ (Ent.nil _)
          ·
            refine Cod.skip ?_
            exact Ext.at_ s (by dsimp only; omega) ⟨rfl, rfl, rfl, rfl, trivial⟩ (Ent.nil _)
        ·
          rintro n hn
          dsimp only
          refine Cod.seq ?_
          refine Cod.region ?_
          dsimp only at hn
          obtain ⟨k, mn, mx, of, hf⟩ : ∃ k mn mx of, fs[i]? = some (.mk k mn mx of) := by rcases he : fs[i]'(by omega) with ⟨k, mn, mx, of⟩; exact ⟨k, mn, mx, of, by rw [List.getElem?_eq_getElem (by omega), he]⟩
          obtain ⟨ov, ocs, hrow, hor, hoc⟩ := hc.get hf
          have hol := hor.small
          refine Ops.st (.move rfl) rfl rfl rfl ?_
          refine Ops.st (.leq rfl rfl) rfl rfl rfl ?_
          refine Ops.st (.move rfl) rfl rfl rfl ?_
          refine Ops.splitD (t := 32) rfl (fun h6 => ?_) (fun h6 => ?_)
          ·
            refine Ops.stG rfl rfl rfl (decide_eq_true h6) (.move rfl) rfl rfl ?_
            refine Ops.stG rfl rfl rfl (decide_eq_true h6) (.move rfl) rfl rfl ?_
            refine Ops.stG rfl rfl rfl (decide_eq_true h6) (.indexAddr (j := i) (off := i * 4) rfl rfl (Rd.ro hr) Try.runUnderlying22 Try.sizeOf37 rfl (by omega) rfl) rfl rfl ?_
            refine Ops.stG rfl rfl rfl (decide_eq_true h6) (.fieldAddr_elem (j := i * 4 + 3) rfl (Rd.ro hr) fa37_3 (by omega) rfl) rfl rfl ?_
            refine Ops.stG rfl rfl rfl (decide_eq_true h6) (.load_elem rfl (Rd.ro hr) Try.isAgg22 (row_at hrow 3 ov rfl)) rfl rfl ?_
            refine Ops.stG rfl rfl rfl (decide_eq_true h6) (.move rfl) rfl rfl ?_
            refine Ops.stG rfl rfl rfl (decide_eq_true h6) (.add rfl rfl (by first | exact IntWalk.i64_in _ (by omega) | rfl)) rfl rfl ?_
            refine Ops.callG rfl rfl rfl (decide_eq_true h6) ⟨Try.call16⟩ rfl rfl rfl (by repeat' first | exact Takes.nil _ | exact TakeP.here _ | apply TakeP.there | apply Takes.cons) (fun F' hF => ih (by omega) (hor.mono hF.hf) (hoc.mono hF.hf of)) rfl rfl ?_
            rintro _ _ ⟨⟨ok, rfl⟩, rfl⟩
            refine Ops.st (.pickT rfl (decide_eq_true h6) rfl) rfl rfl rfl ?_
            refine Ops.st (.assign rfl) rfl rfl rfl ?_
            refine Ops.nil ?_
            refine Ext.seq ?_
            refine Cod.seq ?_
            refine Cod.region ?_
            refine Ops.st (.move rfl) rfl rfl rfl ?_
            refine Ops.st (.notB rfl) rfl rfl rfl ?_
            refine Ops.nil ?_
            refine Ext.seq ?_
            refine Cod.cond rfl (fun h7 => ?_) (fun h7 => ?_)
            ·
              refine Cod.seq ?_
              refine Cod.region ?_
              refine Ops.st (.assign rfl) rfl rfl rfl ?_
              refine Ops.nil ?_
              refine Ext.seq ?_
              exact Cod.ret (Ext.blockR (Ext.seqR (Ext.stopR (Ext.blockR (Ext.seqR (Ext.ret rfl rfl ⟨⟨_, rfl⟩, rfl⟩))))))
            ·
              refine Cod.skip ?_
              refine Ext.block ?_
              refine Ext.seq ?_
              refine Cod.region ?_
              refine Ops.st (.move rfl) rfl rfl rfl ?_
              refine Ops.st (.add rfl rfl (by first | exact IntWalk.i64_in _ (by omega) | rfl)) rfl rfl rfl ?_
              refine Ops.st (.assign rfl) rfl rfl rfl ?_
              refine Ops.nil ?_
              exact Ext.back (i + 1, n) (by dsimp only; omega) ⟨by dsimp only; omega, by dsimp only; omega⟩ ⟨rfl, rfl, rfl, rfl, trivial⟩ (Ent.nil _)
          ·
            refine Ops.skipG rfl rfl rfl (decide_eq_false h6) rfl rfl ?_
            refine Ops.skipG rfl rfl rfl (decide_eq_false h6) rfl rfl ?_
            refine Ops.skipG rfl rfl rfl (decide_eq_false h6) rfl rfl ?_
            refine Ops.skipG rfl rfl rfl (decide_eq_false h6) rfl rfl ?_
            refine Ops.skipG rfl rfl rfl (decide_eq_false h6) rfl rfl ?_
            refine Ops.skipG rfl rfl rfl (decide_eq_false h6) rfl rfl ?_
            refine Ops.skipG rfl rfl rfl (decide_eq_false h6) rfl rfl ?_
            refine Ops.skipG rfl rfl rfl (decide_eq_false h6) rfl rfl ?_
            refine Ops.st (.pickF rfl (decide_eq_false h6) rfl) rfl rfl rfl ?_
            refine Ops.st (.assign rfl) rfl rfl rfl ?_
            refine Ops.nil ?_
            refine Ext.seq ?_
            refine Cod.seq ?_
            refine Cod.region ?_
            refine Ops.st (.move rfl) rfl rfl rfl ?_
            refine Ops.st (.notB rfl) rfl rfl rfl ?_
            refine Ops.nil ?_
            refine Ext.seq ?_
            refine Cod.condT rfl (by simp) ?_
            refine Cod.seq ?_
            refine Cod.region ?_
            refine Ops.st (.assign rfl) rfl rfl rfl ?_
            refine Ops.nil ?_
            refine Ext.seq ?_
            exact Cod.ret (Ext.blockR (Ext.seqR (Ext.stopR (Ext.blockR (Ext.seqR (Ext.ret rfl rfl ⟨⟨_, rfl⟩, rfl⟩))))))
      ·
        refine Cod.exit (Ext.seqX (Ext.stopX (Ext.hit ?_)))
        refine Ext.seq ?_
        refine Cod.seq ?_
        refine Cod.region ?_
        refine Ops.st (.assign rfl) rfl rfl rfl ?_
        refine Ops.nil ?_
        refine Ext.seq ?_
        exact Cod.ret (Ext.ret rfl rfl ⟨⟨_, rfl⟩, rfl⟩)
theorem fields_any : ∀ (n d : Nat), d + n = 7 → ∀ {F : Fr} {v : Value} {cs : List Value} {fs : List Fld}, SlR F.hf v 4 fs.length cs → FldsR F.hf fs cs →
    Spec Try.prog F 16 [v, .int .i64 (d : Int)] [] (fun u hs' => (∃ b, u = .bool b) ∧ hs' = [])
  | 0, d, h, F, v, cs, fs, hr, hc => fields_step (fun h4 => absurd h4 (by omega)) hr hc
  | n + 1, d, h, F, v, cs, fs, hr, hc => fields_step (fun _ {F v cs fs} hr hc => fields_any n (d + 1) (by omega) hr hc) hr hc
end Go.Proofs.Ytacgngfjanlfnaa
