/- The disk's laws on new disks: what the reference makes, that the program is awake. No condition. -/
import Derived.Test.YtjlgdbmeajdciaaD
import Derived.Test.YtjlgdbmeajdciaaLD
namespace Go.Proofs.Ytjlgdbmeajdciaa
open Go

theorem refNew_any {F : Fr} {k : Int} : Spec Try.prog F 13 [.int .i64 k] [] (fun v _ =>
    (¬ (1 ≤ k ∧ k ≤ 4096) ∧ v = .tuple #[.pointer none, .int .i64 1]) ∨ (1 ≤ k ∧ k ≤ 4096 ∧ ∃ b, v = .tuple #[.pointer (some ⟨b, 0, none⟩), .int .i64 0])) := by
  refine Spec.body Try.func13 rfl Try.ntmps13 rfl ?_
  refine Cod.seq ?_
  refine Cod.region ?_
  refine Ops.st (.assign rfl) rfl rfl rfl ?_
  refine Ops.st (.assign rfl) rfl rfl rfl ?_
  refine Ops.nil ?_
  refine Ext.seq ?_
  refine Cod.seq ?_
  refine Cod.seq ?_
  refine Cod.region ?_
  refine Ops.st (.move rfl) rfl rfl rfl ?_
  refine Ops.st (.lss rfl rfl) rfl rfl rfl ?_
  refine Ops.st (.move rfl) rfl rfl rfl ?_
  refine Ops.splitD (t := 8) rfl (fun h => ?_) (fun h => ?_)
  ·
    refine Ops.skipG rfl rfl rfl (decide_eq_true h) rfl rfl ?_
    refine Ops.skipG rfl rfl rfl (decide_eq_true h) rfl rfl ?_
    refine Ops.st (.pickT rfl (decide_eq_true h) rfl) rfl rfl rfl ?_
    refine Ops.nil ?_
    refine Ext.seq ?_
    refine Cod.condT rfl (by simp) ?_
    refine Cod.seq ?_
    refine Cod.region ?_
    refine Ops.st (.assign rfl) rfl rfl rfl ?_
    refine Ops.st (.assign rfl) rfl rfl rfl ?_
    refine Ops.nil ?_
    refine Ext.seq ?_
    exact Cod.ret (Ext.seqR (Ext.ret2 rfl rfl rfl (Or.inl ⟨by omega, rfl⟩)))
  ·
    refine Ops.stG rfl rfl rfl (decide_eq_false h) (.move rfl) rfl rfl ?_
    refine Ops.stG rfl rfl rfl (decide_eq_false h) (.gtr rfl rfl) rfl rfl ?_
    refine Ops.st (.pickF rfl (decide_eq_false h) rfl) rfl rfl rfl ?_
    refine Ops.nil ?_
    refine Ext.seq ?_
    refine Cod.condD rfl (fun h2 => ?_) (fun h2 => ?_)
    ·
      refine Cod.seq ?_
      refine Cod.region ?_
      refine Ops.st (.assign rfl) rfl rfl rfl ?_
      refine Ops.st (.assign rfl) rfl rfl rfl ?_
      refine Ops.nil ?_
      refine Ext.seq ?_
      exact Cod.ret (Ext.seqR (Ext.ret2 rfl rfl rfl (Or.inl ⟨by omega, rfl⟩)))
    ·
      refine Cod.skip ?_
      refine Ext.seq ?_
      refine Cod.seq ?_
      refine Cod.region ?_
      obtain ⟨n, rfl⟩ : ∃ n : Nat, k = n := ⟨k.toNat, by omega⟩
      refine Ops.st (.move rfl) rfl rfl rfl ?_
      refine Ops.ef (.make (ln := n) (cn := n) (xs := List.replicate (n * 1) (.bool false)) (ys := []) rfl rfl ei40 rfl rfl (Nat.le_refl _) (by omega) (by simp only [maxLen]; omega) (by rw [madeCells_one]; simp) (by simp) (One.rep rfl)) rfl rfl rfl ?_
      rintro dv _ ⟨hdv, rfl⟩
      refine Ops.st (.build1 (os := [2]) (cs := [(.slice none 0 0), (.slice none 0 0), _, (.slice none 0 0), (.bool false)]) bs55 rfl rfl rfl (by repeat' first | exact One.nil | apply One.cons rfl | (apply One.cons (Sl.one (by assumption)))) rfl) rfl rfl rfl ?_
      refine Ops.ef (.box rfl rfl) rfl rfl rfl ?_
      rintro _ _ ⟨b, rfl, rfl⟩
      refine Ops.ent (Ent.vecNil (T := 22) (sz := 1)) ?_
      refine Ops.ent (Ent.vecNil (T := 22) (sz := 1)) ?_
      refine Ops.st (.assign rfl) rfl rfl rfl ?_
      refine Ops.nil ?_
      refine Ext.seq ?_
      refine Cod.seq ?_
      refine Cod.seq ?_
      refine Cod.region ?_
      refine Ops.st (.assign rfl) rfl rfl rfl ?_
      refine Ops.nil ?_
      refine Ext.seq ?_
      refine Cod.cutK (fun _ : Unit => ⟨True, [(4, .pointer (some ⟨b, 0, none⟩))], []⟩) ?_ ?_
      ·
        refine Cod.block ?_
        refine Cod.loop (fun g : Nat × Value × Value × List Value × List Value => ⟨g.1 ≤ n ∧ Sl g.2.1 ∧ Sl g.2.2.1, [(0, .int .i64 n), (4, .pointer (some ⟨b, 0, none⟩)), (5, .int .i64 g.1)], [pt b 55 [g.2.1, g.2.2.1, dv, .slice none 0 0, .bool false], vec g.2.1 22 1 g.1 g.2.2.2.1, vec g.2.2.1 22 1 g.1 g.2.2.2.2]⟩) (fun g => n - g.1) (0, .slice none 0 0, .slice none 0 0, [], []) ⟨Nat.zero_le _, Sl.nil, Sl.nil⟩ ⟨rfl, rfl, rfl, trivial⟩ (Ent.take (by repeat' first | exact Takes.nil _ | exact TakeP.here _ | apply TakeP.there | apply Takes.cons)) ?_
        rintro ⟨i, nv, sv, xs, ys⟩ ⟨hi, hnv, hsv⟩
        dsimp only
        refine Cod.seq ?_
        refine Cod.seq ?_
        refine Cod.region ?_
        refine Ops.st (.move rfl) rfl rfl rfl ?_
        refine Ops.st (.move rfl) rfl rfl rfl ?_
        refine Ops.st (.lss rfl rfl) rfl rfl rfl ?_
        refine Ops.nil ?_
        refine Ext.seq ?_
        refine Cod.condD rfl (fun h3 => ?_) (fun h3 => ?_)
        ·
          refine Cod.skip ?_
          refine Ext.seq ?_
          refine Cod.seq ?_
          refine Cod.block ?_
          refine Cod.seq ?_
          refine Cod.cutK (fun g : Value × List Value => ⟨Sl g.1, [(0, .int .i64 n), (4, .pointer (some ⟨b, 0, none⟩)), (5, .int .i64 i)], [pt b 55 [g.1, sv, dv, .slice none 0 0, .bool false], vec g.1 22 1 (i + 1) g.2, vec sv 22 1 i ys]⟩) ?_ ?_
          ·
            refine Cod.regionA mixed (by kernel_rfl) (listed := #[false, false, false, false, false, false, false, false, false, false, false]) ?_
            refine As.take 0 rfl (by kernel_rfl) (by kernel_rfl) (by kernel_rfl) rfl rfl rfl (fun F hs => .move rfl) (by kernel_rfl) (listed' := #[true, false, false, false, false, false, false, false, false, false, false]) ?_
            refine As.take 1 rfl (by kernel_rfl) (by kernel_rfl) (by kernel_rfl) rfl rfl rfl (fun F hs => .move rfl) (by kernel_rfl) (listed' := #[true, true, false, false, false, false, false, false, false, false, false]) ?_
            refine As.take 2 rfl (by kernel_rfl) (by kernel_rfl) (by kernel_rfl) rfl rfl rfl (fun F hs => .nilCheck rfl) (by kernel_rfl) (listed' := #[true, true, true, false, false, false, false, false, false, false, false]) ?_
            refine As.take 3 rfl (by kernel_rfl) (by kernel_rfl) (by kernel_rfl) rfl rfl rfl (fun F hs => .fieldAddr rfl fa55_0) (by kernel_rfl) (listed' := #[true, true, true, true, false, false, false, false, false, false, false]) ?_
            refine As.two (i := 4) (j := 5) (by kernel_rfl) ?_ ?_
            ·
              refine Ao.st rfl (.loadP rfl (by repeat first | exact TakeP.here _ | apply TakeP.there) Try.isAgg51 rfl) rfl rfl rfl (by kernel_rfl) (listed' := #[true, true, true, true, true, false, false, false, false, false, false]) ?_
              refine As.one (i := 5) (by kernel_rfl) ?_
              refine Ao.ef rfl (.make (ln := 128) (cn := 128) (xs := List.replicate 128 (.int .u8 0)) (ys := []) rfl rfl ei22 rfl rfl (Nat.le_refl _) (by decide) (by decide) (by rw [madeCells_one]; simp) (by simp) (One.rep rfl)) rfl rfl rfl (by kernel_rfl) (listed' := #[true, true, true, true, true, true, false, false, false, false, false]) ?_
              rintro p1 _ ⟨hp1, rfl⟩
              refine As.one (i := 6) (by kernel_rfl) ?_
              refine Ao.ef rfl (.lit1 ei51 rfl rfl rfl (by repeat' first | exact One.nil | apply One.cons rfl | (apply One.cons (Sl.one (by assumption))))) rfl rfl rfl (by kernel_rfl) (listed' := #[true, true, true, true, true, true, true, false, false, false, false]) ?_
              rintro p2 _ ⟨hp2, rfl⟩
              refine As.one (i := 7) (by kernel_rfl) ?_
              refine Ao.ef rfl (.append (v := nv) rfl rfl (by repeat first | exact TakeP.here _ | apply TakeP.there) (Rd.vec (v := p2) (by repeat first | exact TakeP.here _ | apply TakeP.there)) ei51 (by omega) (by simp only [maxLen]; omega)) rfl rfl rfl (by kernel_rfl) (listed' := #[true, true, true, true, true, true, true, true, false, false, false]) ?_
              rintro n1 _ ⟨hn1, rfl⟩
              refine As.take 8 rfl (by kernel_rfl) (by kernel_rfl) (by kernel_rfl) rfl rfl rfl (fun F hs => .nilCheck rfl) (by kernel_rfl) (listed' := #[true, true, true, true, true, true, true, true, true, false, false]) ?_
              refine As.take 9 rfl (by kernel_rfl) (by kernel_rfl) (by kernel_rfl) rfl rfl rfl (fun F hs => .fieldAddr rfl fa55_0) (by kernel_rfl) (listed' := #[true, true, true, true, true, true, true, true, true, true, false]) ?_
              refine As.one (i := 10) (by kernel_rfl) ?_
              refine Ao.ef10 rfl (.store rfl rfl (by repeat first | exact TakeP.here _ | apply TakeP.there) Try.sizeOf51 rfl hn1.one (by simp only [Nat.zero_add, List.set_cons_zero]; rfl)) rfl rfl (by kernel_rfl) (listed' := #[true, true, true, true, true, true, true, true, true, true, true]) ?_
              refine As.done (by kernel_rfl) ?_
              exact Ext.at_ (n1, _) hn1 ⟨rfl, rfl, rfl, trivial⟩ (Ent.take (by repeat' first | exact Takes.nil _ | exact TakeP.here _ | apply TakeP.there | apply Takes.cons))
            ·
              refine Ao.ef rfl (.make (ln := 128) (cn := 128) (xs := List.replicate 128 (.int .u8 0)) (ys := []) rfl rfl ei22 rfl rfl (Nat.le_refl _) (by decide) (by decide) (by rw [madeCells_one]; simp) (by simp) (One.rep rfl)) rfl rfl rfl (by kernel_rfl) (listed' := #[true, true, true, true, false, true, false, false, false, false, false]) ?_
              rintro p1 _ ⟨hp1, rfl⟩
              refine As.two (i := 4) (j := 6) (by kernel_rfl) ?_ ?_
              ·
                refine Ao.st rfl (.loadP rfl (by repeat first | exact TakeP.here _ | apply TakeP.there) Try.isAgg51 rfl) rfl rfl rfl (by kernel_rfl) (listed' := #[true, true, true, true, true, true, false, false, false, false, false]) ?_
                refine As.one (i := 6) (by kernel_rfl) ?_
                refine Ao.ef rfl (.lit1 ei51 rfl rfl rfl (by repeat' first | exact One.nil | apply One.cons rfl | (apply One.cons (Sl.one (by assumption))))) rfl rfl rfl (by kernel_rfl) (listed' := #[true, true, true, true, true, true, true, false, false, false, false]) ?_
                rintro p2 _ ⟨hp2, rfl⟩
                refine As.one (i := 7) (by kernel_rfl) ?_
                refine Ao.ef rfl (.append (v := nv) rfl rfl (by repeat first | exact TakeP.here _ | apply TakeP.there) (Rd.vec (v := p2) (by repeat first | exact TakeP.here _ | apply TakeP.there)) ei51 (by omega) (by simp only [maxLen]; omega)) rfl rfl rfl (by kernel_rfl) (listed' := #[true, true, true, true, true, true, true, true, false, false, false]) ?_
                rintro n1 _ ⟨hn1, rfl⟩
                refine As.take 8 rfl (by kernel_rfl) (by kernel_rfl) (by kernel_rfl) rfl rfl rfl (fun F hs => .nilCheck rfl) (by kernel_rfl) (listed' := #[true, true, true, true, true, true, true, true, true, false, false]) ?_
                refine As.take 9 rfl (by kernel_rfl) (by kernel_rfl) (by kernel_rfl) rfl rfl rfl (fun F hs => .fieldAddr rfl fa55_0) (by kernel_rfl) (listed' := #[true, true, true, true, true, true, true, true, true, true, false]) ?_
                refine As.one (i := 10) (by kernel_rfl) ?_
                refine Ao.ef10 rfl (.store rfl rfl (by repeat first | exact TakeP.here _ | apply TakeP.there) Try.sizeOf51 rfl hn1.one (by simp only [Nat.zero_add, List.set_cons_zero]; rfl)) rfl rfl (by kernel_rfl) (listed' := #[true, true, true, true, true, true, true, true, true, true, true]) ?_
                refine As.done (by kernel_rfl) ?_
                exact Ext.at_ (n1, _) hn1 ⟨rfl, rfl, rfl, trivial⟩ (Ent.take (by repeat' first | exact Takes.nil _ | exact TakeP.here _ | apply TakeP.there | apply Takes.cons))
              ·
                refine Ao.ef rfl (.lit1 ei51 rfl rfl rfl (by repeat' first | exact One.nil | apply One.cons rfl | (apply One.cons (Sl.one (by assumption))))) rfl rfl rfl (by kernel_rfl) (listed' := #[true, true, true, true, false, true, true, false, false, false, false]) ?_
                rintro p2 _ ⟨hp2, rfl⟩
                refine As.one (i := 4) (by kernel_rfl) ?_
                refine Ao.st rfl (.loadP rfl (by repeat first | exact TakeP.here _ | apply TakeP.there) Try.isAgg51 rfl) rfl rfl rfl (by kernel_rfl) (listed' := #[true, true, true, true, true, true, true, false, false, false, false]) ?_
                refine As.one (i := 7) (by kernel_rfl) ?_
                refine Ao.ef rfl (.append (v := nv) rfl rfl (by repeat first | exact TakeP.here _ | apply TakeP.there) (Rd.vec (v := p2) (by repeat first | exact TakeP.here _ | apply TakeP.there)) ei51 (by omega) (by simp only [maxLen]; omega)) rfl rfl rfl (by kernel_rfl) (listed' := #[true, true, true, true, true, true, true, true, false, false, false]) ?_
                rintro n1 _ ⟨hn1, rfl⟩
                refine As.take 8 rfl (by kernel_rfl) (by kernel_rfl) (by kernel_rfl) rfl rfl rfl (fun F hs => .nilCheck rfl) (by kernel_rfl) (listed' := #[true, true, true, true, true, true, true, true, true, false, false]) ?_
                refine As.take 9 rfl (by kernel_rfl) (by kernel_rfl) (by kernel_rfl) rfl rfl rfl (fun F hs => .fieldAddr rfl fa55_0) (by kernel_rfl) (listed' := #[true, true, true, true, true, true, true, true, true, true, false]) ?_
                refine As.one (i := 10) (by kernel_rfl) ?_
                refine Ao.ef10 rfl (.store rfl rfl (by repeat first | exact TakeP.here _ | apply TakeP.there) Try.sizeOf51 rfl hn1.one (by simp only [Nat.zero_add, List.set_cons_zero]; rfl)) rfl rfl (by kernel_rfl) (listed' := #[true, true, true, true, true, true, true, true, true, true, true]) ?_
                refine As.done (by kernel_rfl) ?_
                exact Ext.at_ (n1, _) hn1 ⟨rfl, rfl, rfl, trivial⟩ (Ent.take (by repeat' first | exact Takes.nil _ | exact TakeP.here _ | apply TakeP.there | apply Takes.cons))
          ·
            rintro ⟨n1, xs1⟩ hn1
            dsimp only
            refine Cod.regionA mixed (by kernel_rfl) (listed := #[false, false, false, false, false, false, false, false, false, false, false]) ?_
            refine As.take 0 rfl (by kernel_rfl) (by kernel_rfl) (by kernel_rfl) rfl rfl rfl (fun F hs => .move rfl) (by kernel_rfl) (listed' := #[true, false, false, false, false, false, false, false, false, false, false]) ?_
            refine As.take 1 rfl (by kernel_rfl) (by kernel_rfl) (by kernel_rfl) rfl rfl rfl (fun F hs => .move rfl) (by kernel_rfl) (listed' := #[true, true, false, false, false, false, false, false, false, false, false]) ?_
            refine As.take 2 rfl (by kernel_rfl) (by kernel_rfl) (by kernel_rfl) rfl rfl rfl (fun F hs => .nilCheck rfl) (by kernel_rfl) (listed' := #[true, true, true, false, false, false, false, false, false, false, false]) ?_
            refine As.take 3 rfl (by kernel_rfl) (by kernel_rfl) (by kernel_rfl) rfl rfl rfl (fun F hs => .fieldAddr rfl fa55_1) (by kernel_rfl) (listed' := #[true, true, true, true, false, false, false, false, false, false, false]) ?_
            refine As.two (i := 4) (j := 5) (by kernel_rfl) ?_ ?_
            ·
              refine Ao.st rfl (.loadP rfl (by repeat first | exact TakeP.here _ | apply TakeP.there) Try.isAgg51 rfl) rfl rfl rfl (by kernel_rfl) (listed' := #[true, true, true, true, true, false, false, false, false, false, false]) ?_
              refine As.one (i := 5) (by kernel_rfl) ?_
              refine Ao.ef rfl (.make (ln := 128) (cn := 128) (xs := List.replicate 128 (.int .u8 0)) (ys := []) rfl rfl ei22 rfl rfl (Nat.le_refl _) (by decide) (by decide) (by rw [madeCells_one]; simp) (by simp) (One.rep rfl)) rfl rfl rfl (by kernel_rfl) (listed' := #[true, true, true, true, true, true, false, false, false, false, false]) ?_
              rintro q1 _ ⟨hq1, rfl⟩
              refine As.one (i := 6) (by kernel_rfl) ?_
              refine Ao.ef rfl (.lit1 ei51 rfl rfl rfl (by repeat' first | exact One.nil | apply One.cons rfl | (apply One.cons (Sl.one (by assumption))))) rfl rfl rfl (by kernel_rfl) (listed' := #[true, true, true, true, true, true, true, false, false, false, false]) ?_
              rintro q2 _ ⟨hq2, rfl⟩
              refine As.one (i := 7) (by kernel_rfl) ?_
              refine Ao.ef rfl (.append (v := sv) rfl rfl (by repeat first | exact TakeP.here _ | apply TakeP.there) (Rd.vec (v := q2) (by repeat first | exact TakeP.here _ | apply TakeP.there)) ei51 (by omega) (by simp only [maxLen]; omega)) rfl rfl rfl (by kernel_rfl) (listed' := #[true, true, true, true, true, true, true, true, false, false, false]) ?_
              rintro s1 _ ⟨hs1, rfl⟩
              refine As.take 8 rfl (by kernel_rfl) (by kernel_rfl) (by kernel_rfl) rfl rfl rfl (fun F hs => .nilCheck rfl) (by kernel_rfl) (listed' := #[true, true, true, true, true, true, true, true, true, false, false]) ?_
              refine As.take 9 rfl (by kernel_rfl) (by kernel_rfl) (by kernel_rfl) rfl rfl rfl (fun F hs => .fieldAddr rfl fa55_1) (by kernel_rfl) (listed' := #[true, true, true, true, true, true, true, true, true, true, false]) ?_
              refine As.one (i := 10) (by kernel_rfl) ?_
              refine Ao.ef10 rfl (.store rfl rfl (by repeat first | exact TakeP.here _ | apply TakeP.there) Try.sizeOf51 rfl hs1.one (by simp only [Nat.zero_add, List.set_cons_zero, List.set_cons_succ]; rfl)) rfl rfl (by kernel_rfl) (listed' := #[true, true, true, true, true, true, true, true, true, true, true]) ?_
              refine As.done (by kernel_rfl) ?_
              refine Ext.block ?_
              refine Ext.seq ?_
              refine Cod.region ?_
              refine Ops.st (.move rfl) rfl rfl rfl ?_
              refine Ops.st (.add rfl rfl (by first | exact IntWalk.i64_in _ (by omega) | rfl)) rfl rfl rfl ?_
              refine Ops.st (.assign rfl) rfl rfl rfl ?_
              refine Ops.nil ?_
              exact Ext.back (i + 1, n1, s1, _, _) (by dsimp only; omega) ⟨by dsimp only; omega, hn1, hs1⟩ ⟨rfl, rfl, rfl, trivial⟩ (Ent.take (by repeat' first | exact Takes.nil _ | exact TakeP.here _ | apply TakeP.there | apply Takes.cons))
            ·
              refine Ao.ef rfl (.make (ln := 128) (cn := 128) (xs := List.replicate 128 (.int .u8 0)) (ys := []) rfl rfl ei22 rfl rfl (Nat.le_refl _) (by decide) (by decide) (by rw [madeCells_one]; simp) (by simp) (One.rep rfl)) rfl rfl rfl (by kernel_rfl) (listed' := #[true, true, true, true, false, true, false, false, false, false, false]) ?_
              rintro q1 _ ⟨hq1, rfl⟩
              refine As.two (i := 4) (j := 6) (by kernel_rfl) ?_ ?_
              ·
                refine Ao.st rfl (.loadP rfl (by repeat first | exact TakeP.here _ | apply TakeP.there) Try.isAgg51 rfl) rfl rfl rfl (by kernel_rfl) (listed' := #[true, true, true, true, true, true, false, false, false, false, false]) ?_
                refine As.one (i := 6) (by kernel_rfl) ?_
                refine Ao.ef rfl (.lit1 ei51 rfl rfl rfl (by repeat' first | exact One.nil | apply One.cons rfl | (apply One.cons (Sl.one (by assumption))))) rfl rfl rfl (by kernel_rfl) (listed' := #[true, true, true, true, true, true, true, false, false, false, false]) ?_
                rintro q2 _ ⟨hq2, rfl⟩
                refine As.one (i := 7) (by kernel_rfl) ?_
                refine Ao.ef rfl (.append (v := sv) rfl rfl (by repeat first | exact TakeP.here _ | apply TakeP.there) (Rd.vec (v := q2) (by repeat first | exact TakeP.here _ | apply TakeP.there)) ei51 (by omega) (by simp only [maxLen]; omega)) rfl rfl rfl (by kernel_rfl) (listed' := #[true, true, true, true, true, true, true, true, false, false, false]) ?_
                rintro s1 _ ⟨hs1, rfl⟩
                refine As.take 8 rfl (by kernel_rfl) (by kernel_rfl) (by kernel_rfl) rfl rfl rfl (fun F hs => .nilCheck rfl) (by kernel_rfl) (listed' := #[true, true, true, true, true, true, true, true, true, false, false]) ?_
                refine As.take 9 rfl (by kernel_rfl) (by kernel_rfl) (by kernel_rfl) rfl rfl rfl (fun F hs => .fieldAddr rfl fa55_1) (by kernel_rfl) (listed' := #[true, true, true, true, true, true, true, true, true, true, false]) ?_
                refine As.one (i := 10) (by kernel_rfl) ?_
                refine Ao.ef10 rfl (.store rfl rfl (by repeat first | exact TakeP.here _ | apply TakeP.there) Try.sizeOf51 rfl hs1.one (by simp only [Nat.zero_add, List.set_cons_zero, List.set_cons_succ]; rfl)) rfl rfl (by kernel_rfl) (listed' := #[true, true, true, true, true, true, true, true, true, true, true]) ?_
                refine As.done (by kernel_rfl) ?_
                refine Ext.block ?_
                refine Ext.seq ?_
                refine Cod.region ?_
                refine Ops.st (.move rfl) rfl rfl rfl ?_
                refine Ops.st (.add rfl rfl (by first | exact IntWalk.i64_in _ (by omega) | rfl)) rfl rfl rfl ?_
                refine Ops.st (.assign rfl) rfl rfl rfl ?_
                refine Ops.nil ?_
                exact Ext.back (i + 1, n1, s1, _, _) (by dsimp only; omega) ⟨by dsimp only; omega, hn1, hs1⟩ ⟨rfl, rfl, rfl, trivial⟩ (Ent.take (by repeat' first | exact Takes.nil _ | exact TakeP.here _ | apply TakeP.there | apply Takes.cons))
              ·
                refine Ao.ef rfl (.lit1 ei51 rfl rfl rfl (by repeat' first | exact One.nil | apply One.cons rfl | (apply One.cons (Sl.one (by assumption))))) rfl rfl rfl (by kernel_rfl) (listed' := #[true, true, true, true, false, true, true, false, false, false, false]) ?_
                rintro q2 _ ⟨hq2, rfl⟩
                refine As.one (i := 4) (by kernel_rfl) ?_
                refine Ao.st rfl (.loadP rfl (by repeat first | exact TakeP.here _ | apply TakeP.there) Try.isAgg51 rfl) rfl rfl rfl (by kernel_rfl) (listed' := #[true, true, true, true, true, true, true, false, false, false, false]) ?_
                refine As.one (i := 7) (by kernel_rfl) ?_
                refine Ao.ef rfl (.append (v := sv) rfl rfl (by repeat first | exact TakeP.here _ | apply TakeP.there) (Rd.vec (v := q2) (by repeat first | exact TakeP.here _ | apply TakeP.there)) ei51 (by omega) (by simp only [maxLen]; omega)) rfl rfl rfl (by kernel_rfl) (listed' := #[true, true, true, true, true, true, true, true, false, false, false]) ?_
                rintro s1 _ ⟨hs1, rfl⟩
                refine As.take 8 rfl (by kernel_rfl) (by kernel_rfl) (by kernel_rfl) rfl rfl rfl (fun F hs => .nilCheck rfl) (by kernel_rfl) (listed' := #[true, true, true, true, true, true, true, true, true, false, false]) ?_
                refine As.take 9 rfl (by kernel_rfl) (by kernel_rfl) (by kernel_rfl) rfl rfl rfl (fun F hs => .fieldAddr rfl fa55_1) (by kernel_rfl) (listed' := #[true, true, true, true, true, true, true, true, true, true, false]) ?_
                refine As.one (i := 10) (by kernel_rfl) ?_
                refine Ao.ef10 rfl (.store rfl rfl (by repeat first | exact TakeP.here _ | apply TakeP.there) Try.sizeOf51 rfl hs1.one (by simp only [Nat.zero_add, List.set_cons_zero, List.set_cons_succ]; rfl)) rfl rfl (by kernel_rfl) (listed' := #[true, true, true, true, true, true, true, true, true, true, true]) ?_
                refine As.done (by kernel_rfl) ?_
                refine Ext.block ?_
                refine Ext.seq ?_
                refine Cod.region ?_
                refine Ops.st (.move rfl) rfl rfl rfl ?_
                refine Ops.st (.add rfl rfl (by first | exact IntWalk.i64_in _ (by omega) | rfl)) rfl rfl rfl ?_
                refine Ops.st (.assign rfl) rfl rfl rfl ?_
                refine Ops.nil ?_
                exact Ext.back (i + 1, n1, s1, _, _) (by dsimp only; omega) ⟨by dsimp only; omega, hn1, hs1⟩ ⟨rfl, rfl, rfl, trivial⟩ (Ent.take (by repeat' first | exact Takes.nil _ | exact TakeP.here _ | apply TakeP.there | apply Takes.cons))
        ·
          refine Cod.exit (Ext.seqX (Ext.stopX (Ext.hit ?_)))
          exact Ext.at_ () trivial ⟨rfl, trivial⟩ (Ent.nil _)
      ·
        rintro _ _
        dsimp only
        refine Cod.seq ?_
        refine Cod.region ?_
        refine Ops.st (.move rfl) rfl rfl rfl ?_
        refine Ops.st (.assign rfl) rfl rfl rfl ?_
        refine Ops.st (.assign rfl) rfl rfl rfl ?_
        refine Ops.nil ?_
        refine Ext.seq ?_
        exact Cod.ret (Ext.ret2 rfl rfl rfl (Or.inr ⟨by omega, by omega, b, rfl⟩))
end Go.Proofs.Ytjlgdbmeajdciaa
