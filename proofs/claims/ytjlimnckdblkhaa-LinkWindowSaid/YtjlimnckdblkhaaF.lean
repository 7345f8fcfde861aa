/- A packet with a body; what goes of what waits. No condition. -/
import Derived.Test.YtjlimnckdblkhaaE
namespace Go.Proofs.Ytjlimnckdblkhaa
open Go

theorem data_any {F : Fr} {e p f s nx t seq : Int} {v : Value} {n : Nat} {bs : List Value} (hr : SlR F.hf v 1 n bs) (hn : n ≤ 70368744177664) (hx : 1 ≤ nx ∧ nx ≤ 1073741825) :
    Spec Try.prog F 34 [.agg (sesC e p f s nx t).toArray, .int .i64 seq, v] [] (fun w hs' => ∃ u, w = .agg (packC 3 e p seq (nx - 1) u).toArray ∧ Sl u ∧ hs' = [vec u 5 1 n bs]) := by
  have hsl := hr.sl
  refine Spec.body Try.func34 rfl Try.ntmps34 rfl ?_
  refine Cod.seq ?_
  refine Cod.region ?_
  refine Ops.ef (.box rfl rfl) rfl rfl rfl ?_
  rintro _ _ ⟨b1, rfl, rfl⟩
  refine Ops.ef (.alloc Try.zeroValue24 rfl) rfl rfl rfl ?_
  rintro _ _ ⟨b2, rfl, rfl⟩
  refine Ops.nil ?_
  refine Ext.seq ?_
  refine Cod.seq ?_
  refine Cod.region ?_
  refine Ops.st (.loadPA rfl (by repeat first | exact TakeP.here _ | apply TakeP.there) Try.isAgg70 Try.sizeOf70 rfl rfl) rfl rfl rfl ?_
  refine Ops.call ⟨Try.call33⟩ rfl rfl rfl (by repeat' first | exact Takes.nil _ | exact TakeP.here _ | apply TakeP.there | apply Takes.cons) (fun F' hF => bare_any (e := e) (p := p) (f := f) (s := s) (nx := nx) (t := t)) rfl rfl rfl ?_
  rintro _ _ ⟨rfl, rfl⟩
  refine Ops.ef (.alloc Try.zeroValue24 rfl) rfl rfl rfl ?_
  rintro _ _ ⟨b3, rfl, rfl⟩
  refine Ops.ef10 (.storeA rfl rfl (by repeat first | exact TakeP.here _ | apply TakeP.there) Try.sizeOf24 rfl (by first | decide | simp) (by first | decide | exact (by repeat' first | exact One.nil | apply One.cons rfl | (apply One.cons (Sl.one (by assumption))))) rfl) rfl rfl ?_
  refine Ops.nil ?_
  refine Ext.seq ?_
  refine Cod.seq ?_
  refine Cod.cutK (fun u : Value => ⟨Sl u, [(6, .pointer (some ⟨b2, 0, none⟩)), (7, .pointer (some ⟨b3, 0, none⟩))], [pt b2 24 (packC 0 0 0 0 0 (.slice none 0 0)), pt b3 24 (packC 3 e p seq (nx - 1) u), vec u 5 1 n bs]⟩) ?_ ?_
  ·
    refine Cod.regionA mixed (by kernel_rfl) (listed := #[false, false, false, false, false, false, false, false, false, false, false, false]) ?_
    refine As.take 0 rfl (by kernel_rfl) (by kernel_rfl) (by kernel_rfl) rfl rfl rfl (fun F hs => .move rfl) (by kernel_rfl) (listed' := #[true, false, false, false, false, false, false, false, false, false, false, false]) ?_
    refine As.take 1 rfl (by kernel_rfl) (by kernel_rfl) (by kernel_rfl) rfl rfl rfl (fun F hs => .fieldAddr rfl fa70_4) (by kernel_rfl) (listed' := #[true, true, false, false, false, false, false, false, false, false, false, false]) ?_
    refine As.take 4 rfl (by kernel_rfl) (by kernel_rfl) (by kernel_rfl) rfl rfl rfl (fun F hs => .move rfl) (by kernel_rfl) (listed' := #[true, true, false, false, true, false, false, false, false, false, false, false]) ?_
    refine As.take 6 rfl (by kernel_rfl) (by kernel_rfl) (by kernel_rfl) rfl rfl rfl (fun F hs => .fieldAddr rfl fa24_3) (by kernel_rfl) (listed' := #[true, true, false, false, true, false, true, false, false, false, false, false]) ?_
    refine As.two (i := 2) (j := 5) (by kernel_rfl) ?_ ?_
    ·
      refine Ao.st rfl (.loadP rfl (by repeat first | exact TakeP.here _ | apply TakeP.there) Try.isAgg3 rfl) rfl rfl rfl (by kernel_rfl) (listed' := #[true, true, true, false, true, false, true, false, false, false, false, false]) ?_
      refine As.take 3 rfl (by kernel_rfl) (by kernel_rfl) (by kernel_rfl) rfl rfl rfl (fun F hs => .sub rfl rfl (by first | exact IntWalk.i64_in _ (by omega) | rfl)) (by kernel_rfl) (listed' := #[true, true, true, true, true, false, true, false, false, false, false, false]) ?_
      refine As.one (i := 5) (by kernel_rfl) ?_
      refine Ao.call rfl ⟨Try.call36⟩ rfl rfl rfl (by repeat' first | exact Takes.nil _ | exact TakeP.here _ | apply TakeP.there | apply Takes.cons) (fun F' hF => clone22_any (hr.mono hF.hf) hn) rfl rfl rfl (by kernel_rfl) (listed' := #[true, true, true, true, true, true, true, false, false, false, false, false]) ?_
      rintro u _ ⟨hu, rfl⟩
      refine As.one (i := 7) (by kernel_rfl) ?_
      refine Ao.ef10 rfl (.store rfl rfl (by repeat first | exact TakeP.here _ | apply TakeP.there) Try.sizeOf3 rfl rfl (by simp only [Nat.zero_add, List.set_cons_zero, List.set_cons_succ]; rfl)) rfl rfl (by kernel_rfl) (listed' := #[true, true, true, true, true, true, true, true, false, false, false, false]) ?_
      refine As.take 8 rfl (by kernel_rfl) (by kernel_rfl) (by kernel_rfl) rfl rfl rfl (fun F hs => .fieldAddr rfl fa24_4) (by kernel_rfl) (listed' := #[true, true, true, true, true, true, true, true, true, false, false, false]) ?_
      refine As.one (i := 9) (by kernel_rfl) ?_
      refine Ao.ef10 rfl (.store rfl rfl (by repeat first | exact TakeP.here _ | apply TakeP.there) Try.sizeOf3 rfl rfl (by simp only [Nat.zero_add, List.set_cons_zero, List.set_cons_succ]; rfl)) rfl rfl (by kernel_rfl) (listed' := #[true, true, true, true, true, true, true, true, true, true, false, false]) ?_
      refine As.take 10 rfl (by kernel_rfl) (by kernel_rfl) (by kernel_rfl) rfl rfl rfl (fun F hs => .fieldAddr rfl fa24_5) (by kernel_rfl) (listed' := #[true, true, true, true, true, true, true, true, true, true, true, false]) ?_
      refine As.one (i := 11) (by kernel_rfl) ?_
      refine Ao.ef10 rfl (.store rfl rfl (by repeat first | exact TakeP.here _ | apply TakeP.there) Try.sizeOf22 rfl hu.one (by simp only [Nat.zero_add, List.set_cons_zero, List.set_cons_succ]; rfl)) rfl rfl (by kernel_rfl) (listed' := #[true, true, true, true, true, true, true, true, true, true, true, true]) ?_
      refine As.done (by kernel_rfl) ?_
      exact Ext.at_ u hu ⟨rfl, rfl, trivial⟩ (Ent.take (by repeat' first | exact Takes.nil _ | exact TakeP.here _ | apply TakeP.there | apply Takes.cons))
    ·
      refine Ao.call rfl ⟨Try.call36⟩ rfl rfl rfl (by repeat' first | exact Takes.nil _ | exact TakeP.here _ | apply TakeP.there | apply Takes.cons) (fun F' hF => clone22_any (hr.mono hF.hf) hn) rfl rfl rfl (by kernel_rfl) (listed' := #[true, true, false, false, true, true, true, false, false, false, false, false]) ?_
      rintro u _ ⟨hu, rfl⟩
      refine As.two (i := 2) (j := 7) (by kernel_rfl) ?_ ?_
      ·
        refine Ao.st rfl (.loadP rfl (by repeat first | exact TakeP.here _ | apply TakeP.there) Try.isAgg3 rfl) rfl rfl rfl (by kernel_rfl) (listed' := #[true, true, true, false, true, true, true, false, false, false, false, false]) ?_
        refine As.take 3 rfl (by kernel_rfl) (by kernel_rfl) (by kernel_rfl) rfl rfl rfl (fun F hs => .sub rfl rfl (by first | exact IntWalk.i64_in _ (by omega) | rfl)) (by kernel_rfl) (listed' := #[true, true, true, true, true, true, true, false, false, false, false, false]) ?_
        refine As.one (i := 7) (by kernel_rfl) ?_
        refine Ao.ef10 rfl (.store rfl rfl (by repeat first | exact TakeP.here _ | apply TakeP.there) Try.sizeOf3 rfl rfl (by simp only [Nat.zero_add, List.set_cons_zero, List.set_cons_succ]; rfl)) rfl rfl (by kernel_rfl) (listed' := #[true, true, true, true, true, true, true, true, false, false, false, false]) ?_
        refine As.take 8 rfl (by kernel_rfl) (by kernel_rfl) (by kernel_rfl) rfl rfl rfl (fun F hs => .fieldAddr rfl fa24_4) (by kernel_rfl) (listed' := #[true, true, true, true, true, true, true, true, true, false, false, false]) ?_
        refine As.one (i := 9) (by kernel_rfl) ?_
        refine Ao.ef10 rfl (.store rfl rfl (by repeat first | exact TakeP.here _ | apply TakeP.there) Try.sizeOf3 rfl rfl (by simp only [Nat.zero_add, List.set_cons_zero, List.set_cons_succ]; rfl)) rfl rfl (by kernel_rfl) (listed' := #[true, true, true, true, true, true, true, true, true, true, false, false]) ?_
        refine As.take 10 rfl (by kernel_rfl) (by kernel_rfl) (by kernel_rfl) rfl rfl rfl (fun F hs => .fieldAddr rfl fa24_5) (by kernel_rfl) (listed' := #[true, true, true, true, true, true, true, true, true, true, true, false]) ?_
        refine As.one (i := 11) (by kernel_rfl) ?_
        refine Ao.ef10 rfl (.store rfl rfl (by repeat first | exact TakeP.here _ | apply TakeP.there) Try.sizeOf22 rfl hu.one (by simp only [Nat.zero_add, List.set_cons_zero, List.set_cons_succ]; rfl)) rfl rfl (by kernel_rfl) (listed' := #[true, true, true, true, true, true, true, true, true, true, true, true]) ?_
        refine As.done (by kernel_rfl) ?_
        exact Ext.at_ u hu ⟨rfl, rfl, trivial⟩ (Ent.take (by repeat' first | exact Takes.nil _ | exact TakeP.here _ | apply TakeP.there | apply Takes.cons))
      ·
        refine Ao.ef10 rfl (.store rfl rfl (by repeat first | exact TakeP.here _ | apply TakeP.there) Try.sizeOf3 rfl rfl (by simp only [Nat.zero_add, List.set_cons_zero, List.set_cons_succ]; rfl)) rfl rfl (by kernel_rfl) (listed' := #[true, true, false, false, true, true, true, true, false, false, false, false]) ?_
        refine As.one (i := 2) (by kernel_rfl) ?_
        refine Ao.st rfl (.loadP rfl (by repeat first | exact TakeP.here _ | apply TakeP.there) Try.isAgg3 rfl) rfl rfl rfl (by kernel_rfl) (listed' := #[true, true, true, false, true, true, true, true, false, false, false, false]) ?_
        refine As.take 3 rfl (by kernel_rfl) (by kernel_rfl) (by kernel_rfl) rfl rfl rfl (fun F hs => .sub rfl rfl (by first | exact IntWalk.i64_in _ (by omega) | rfl)) (by kernel_rfl) (listed' := #[true, true, true, true, true, true, true, true, false, false, false, false]) ?_
        refine As.take 8 rfl (by kernel_rfl) (by kernel_rfl) (by kernel_rfl) rfl rfl rfl (fun F hs => .fieldAddr rfl fa24_4) (by kernel_rfl) (listed' := #[true, true, true, true, true, true, true, true, true, false, false, false]) ?_
        refine As.one (i := 9) (by kernel_rfl) ?_
        refine Ao.ef10 rfl (.store rfl rfl (by repeat first | exact TakeP.here _ | apply TakeP.there) Try.sizeOf3 rfl rfl (by simp only [Nat.zero_add, List.set_cons_zero, List.set_cons_succ]; rfl)) rfl rfl (by kernel_rfl) (listed' := #[true, true, true, true, true, true, true, true, true, true, false, false]) ?_
        refine As.take 10 rfl (by kernel_rfl) (by kernel_rfl) (by kernel_rfl) rfl rfl rfl (fun F hs => .fieldAddr rfl fa24_5) (by kernel_rfl) (listed' := #[true, true, true, true, true, true, true, true, true, true, true, false]) ?_
        refine As.one (i := 11) (by kernel_rfl) ?_
        refine Ao.ef10 rfl (.store rfl rfl (by repeat first | exact TakeP.here _ | apply TakeP.there) Try.sizeOf22 rfl hu.one (by simp only [Nat.zero_add, List.set_cons_zero, List.set_cons_succ]; rfl)) rfl rfl (by kernel_rfl) (listed' := #[true, true, true, true, true, true, true, true, true, true, true, true]) ?_
        refine As.done (by kernel_rfl) ?_
        exact Ext.at_ u hu ⟨rfl, rfl, trivial⟩ (Ent.take (by repeat' first | exact Takes.nil _ | exact TakeP.here _ | apply TakeP.there | apply Takes.cons))
  ·
    rintro u hu
    dsimp only
    refine Cod.seq ?_
    refine Cod.region ?_
    refine Ops.st (.loadPA rfl (by repeat first | exact TakeP.here _ | apply TakeP.there) Try.isAgg24 Try.sizeOf24 rfl rfl) rfl rfl rfl ?_
    refine Ops.ef10 (.storeA rfl rfl (by repeat first | exact TakeP.here _ | apply TakeP.there) Try.sizeOf24 rfl (by first | decide | simp) (by first | decide | exact (by repeat' first | exact One.nil | apply One.cons rfl | (apply One.cons (Sl.one (by assumption))))) rfl) rfl rfl ?_
    refine Ops.nil ?_
    refine Ext.seq ?_
    exact Cod.ret (Ext.retCE rfl rfl (by repeat first | exact TakeP.here _ | apply TakeP.there) Try.isAgg24 Try.sizeOf24 (by first | rfl | assumption) (Ent.take (by repeat' first | exact Takes.nil _ | exact TakeP.here _ | apply TakeP.there | apply Takes.cons)) (⟨u, rfl, hu, rfl⟩))

/-- What waits when a number is told. -/
def LkM.gone (L : LkM) (ack : Int) : LkM := if 0 < ack - L.f + 1 ∧ ack - L.f + 1 ≤ L.s then { L with wait := L.wait.drop (ack - L.f + 1).toNat, f := L.f + (ack - L.f + 1), s := L.s - (ack - L.f + 1), t := 0 } else L
theorem LkM.Ok.goneOk {L : LkM} (ok : L.Ok) {ack : Int} (ha : 0 ≤ ack ∧ ack ≤ 1073741824) : (L.gone ack).Ok := by
  have h1 := ok.s
  have h2 := ok.f
  have h3 := ok.wait
  unfold LkM.gone
  split
  · refine ⟨ok.e, ok.p, ?_, ?_, ok.nx, ?_, ?_, fun c hc => ok.each c (List.mem_of_mem_drop hc)⟩
    · dsimp only; omega
    · dsimp only; rw [List.length_drop]; omega
    · dsimp only; omega
    · dsimp only; rw [List.length_drop]; omega
  · exact ok
theorem gone_any {F : Fr} {b : Nat} {h0 : Hp} {L : LkM} {ack : Int} (ha : 0 ≤ ack ∧ ack ≤ 1073741824) :
    Spec Try.prog F 38 [.pointer (some ⟨b, 0, none⟩), .int .i64 ack] [link b h0 L] (fun _ hs' => hs' = [link b h0 (L.gone ack)]) := by
  refine Spec.open_ (link_open b h0 L) ?_
  rintro ⟨wv, bvs⟩ ⟨hwv, hbs, ok⟩
  dsimp only [lkI, List.cons_append, List.nil_append] at hwv hbs ⊢
  have hs := ok.s
  have hf := ok.f
  have hw := ok.wait
  have hok := ok.goneOk ha
  refine Spec.body Try.func38 rfl Try.ntmps38 rfl ?_
  refine Cod.seq ?_
  refine Cod.region ?_
  refine Ops.st (.move rfl) rfl rfl rfl ?_
  refine Ops.st (.move rfl) rfl rfl rfl ?_
  refine Ops.st (.nilCheck rfl) rfl rfl rfl ?_
  refine Ops.st (.fieldAddr rfl fa73_0) rfl rfl rfl ?_
  refine Ops.st (.fieldAddr rfl fa70_2) rfl rfl rfl ?_
  refine Ops.st (.loadP rfl (by repeat first | exact TakeP.here _ | apply TakeP.there) Try.isAgg3 rfl) rfl rfl rfl ?_
  refine Ops.st (.sub rfl rfl (by first | exact IntWalk.i64_in _ (by omega) | rfl)) rfl rfl rfl ?_
  refine Ops.st (.add rfl rfl (by first | exact IntWalk.i64_in _ (by omega) | rfl)) rfl rfl rfl ?_
  refine Ops.st (.assign rfl) rfl rfl rfl ?_
  refine Ops.nil ?_
  refine Ext.seq ?_
  refine Cod.seq ?_
  refine Cod.region ?_
  refine Ops.st (.move rfl) rfl rfl rfl ?_
  refine Ops.st (.gtr rfl rfl) rfl rfl rfl ?_
  refine Ops.st (.move rfl) rfl rfl rfl ?_
  refine Ops.splitD (t := 15) rfl (fun h1 => ?_) (fun h1 => ?_)
  ·
    refine Ops.stG rfl rfl rfl (decide_eq_true h1) (.move rfl) rfl rfl ?_
    refine Ops.stG rfl rfl rfl (decide_eq_true h1) (.move rfl) rfl rfl ?_
    refine Ops.stG rfl rfl rfl (decide_eq_true h1) (.nilCheck rfl) rfl rfl ?_
    refine Ops.stG rfl rfl rfl (decide_eq_true h1) (.fieldAddr rfl fa73_0) rfl rfl ?_
    refine Ops.stG rfl rfl rfl (decide_eq_true h1) (.fieldAddr rfl fa70_3) rfl rfl ?_
    refine Ops.stG rfl rfl rfl (decide_eq_true h1) (.loadP rfl (by repeat first | exact TakeP.here _ | apply TakeP.there) Try.isAgg3 rfl) rfl rfl ?_
    refine Ops.stG rfl rfl rfl (decide_eq_true h1) (.leq rfl rfl) rfl rfl ?_
    refine Ops.st (.pickT rfl (decide_eq_true h1) rfl) rfl rfl rfl ?_
    refine Ops.nil ?_
    refine Ext.seq ?_
    refine Cod.condD rfl (fun h2 => ?_) (fun h2 => ?_)
    ·
      refine Cod.seq ?_
      refine Cod.region ?_
      have hG : L.gone ack = { L with wait := L.wait.drop (ack - L.f + 1).toNat, f := L.f + (ack - L.f + 1), s := L.s - (ack - L.f + 1), t := 0 } := by unfold LkM.gone; rw [if_pos ⟨by omega, by omega⟩]
      rw [hG] at hok ⊢
      obtain ⟨m, hm⟩ : ∃ m : Nat, ack - L.f + 1 = m := ⟨(ack - L.f + 1).toNat, by omega⟩
      rw [hm] at hok ⊢
      rw [Int.toNat_natCast] at hok ⊢
      have hcut : List.take ((L.wait.length - m) * 1) (List.drop (m * 1) bvs) = bvs.drop m := by rw [Nat.mul_one, Nat.mul_one]; exact List.take_of_length_le (by rw [List.length_drop, hbs.len]; exact Nat.le_refl _)
      refine Ops.st (.move rfl) rfl rfl rfl ?_
      refine Ops.st (.move rfl) rfl rfl rfl ?_
      refine Ops.st (.nilCheck rfl) rfl rfl rfl ?_
      refine Ops.st (.fieldAddr rfl fa73_1) rfl rfl rfl ?_
      refine Ops.st (.loadP rfl (by repeat first | exact TakeP.here _ | apply TakeP.there) Try.isAgg43 rfl) rfl rfl rfl ?_
      refine Ops.st (.move rfl) rfl rfl rfl ?_
      refine Ops.st (.slice_l (lo := m) rfl rfl (Rd.vec (v := wv) (by repeat first | exact TakeP.here _ | apply TakeP.there)) Try.runUnderlying43 Try.sizeOf22 rfl (by omega)) rfl rfl rfl ?_
      refine Ops.call ⟨Try.call41⟩ rfl rfl rfl (by repeat' first | exact Takes.nil _ | exact TakeP.here _ | apply TakeP.there | apply Takes.cons) (fun F' hF => clone43_any (((Rd.vec (v := wv) (by repeat first | exact TakeP.here _ | apply TakeP.there)).cut (lo := m) (hi := L.wait.length) (by omega) (Nat.le_refl _)).wider hF) (by omega)) rfl rfl rfl ?_
      rintro u _ ⟨hu, rfl⟩
      rw [hcut, show L.wait.length - m = (L.wait.drop m).length from by rw [List.length_drop]]
      refine Ops.st (.nilCheck rfl) rfl rfl rfl ?_
      refine Ops.st (.fieldAddr rfl fa73_1) rfl rfl rfl ?_
      refine Ops.ef10 (.store rfl rfl (by repeat first | exact TakeP.here _ | apply TakeP.there) Try.sizeOf43 rfl hu.one (by simp only [Nat.zero_add, List.set_cons_zero, List.set_cons_succ]; rfl)) rfl rfl ?_
      refine Ops.nil ?_
      refine Ext.seq ?_
      refine Cod.regionA mixed (by kernel_rfl) (listed := #[false, false, false, false, false, false, false, false, false, false, false, false, false, false, false, false, false, false, false, false, false, false, false, false, false, false, false, false, false]) ?_
      refine As.take 0 rfl (by kernel_rfl) (by kernel_rfl) (by kernel_rfl) rfl rfl rfl (fun F hs => .move rfl) (by kernel_rfl) (listed' := #[true, false, false, false, false, false, false, false, false, false, false, false, false, false, false, false, false, false, false, false, false, false, false, false, false, false, false, false, false]) ?_
      refine As.take 1 rfl (by kernel_rfl) (by kernel_rfl) (by kernel_rfl) rfl rfl rfl (fun F hs => .move rfl) (by kernel_rfl) (listed' := #[true, true, false, false, false, false, false, false, false, false, false, false, false, false, false, false, false, false, false, false, false, false, false, false, false, false, false, false, false]) ?_
      refine As.take 2 rfl (by kernel_rfl) (by kernel_rfl) (by kernel_rfl) rfl rfl rfl (fun F hs => .move rfl) (by kernel_rfl) (listed' := #[true, true, true, false, false, false, false, false, false, false, false, false, false, false, false, false, false, false, false, false, false, false, false, false, false, false, false, false, false]) ?_
      refine As.take 3 rfl (by kernel_rfl) (by kernel_rfl) (by kernel_rfl) rfl rfl rfl (fun F hs => .move rfl) (by kernel_rfl) (listed' := #[true, true, true, true, false, false, false, false, false, false, false, false, false, false, false, false, false, false, false, false, false, false, false, false, false, false, false, false, false]) ?_
      refine As.take 4 rfl (by kernel_rfl) (by kernel_rfl) (by kernel_rfl) rfl rfl rfl (fun F hs => .nilCheck rfl) (by kernel_rfl) (listed' := #[true, true, true, true, true, false, false, false, false, false, false, false, false, false, false, false, false, false, false, false, false, false, false, false, false, false, false, false, false]) ?_
      refine As.take 5 rfl (by kernel_rfl) (by kernel_rfl) (by kernel_rfl) rfl rfl rfl (fun F hs => .fieldAddr rfl fa73_0) (by kernel_rfl) (listed' := #[true, true, true, true, true, true, false, false, false, false, false, false, false, false, false, false, false, false, false, false, false, false, false, false, false, false, false, false, false]) ?_
      refine As.take 6 rfl (by kernel_rfl) (by kernel_rfl) (by kernel_rfl) rfl rfl rfl (fun F hs => .fieldAddr rfl fa70_2) (by kernel_rfl) (listed' := #[true, true, true, true, true, true, true, false, false, false, false, false, false, false, false, false, false, false, false, false, false, false, false, false, false, false, false, false, false]) ?_
      refine As.take 8 rfl (by kernel_rfl) (by kernel_rfl) (by kernel_rfl) rfl rfl rfl (fun F hs => .move rfl) (by kernel_rfl) (listed' := #[true, true, true, true, true, true, true, false, true, false, false, false, false, false, false, false, false, false, false, false, false, false, false, false, false, false, false, false, false]) ?_
      refine As.take 10 rfl (by kernel_rfl) (by kernel_rfl) (by kernel_rfl) rfl rfl rfl (fun F hs => .move rfl) (by kernel_rfl) (listed' := #[true, true, true, true, true, true, true, false, true, false, true, false, false, false, false, false, false, false, false, false, false, false, false, false, false, false, false, false, false]) ?_
      refine As.take 11 rfl (by kernel_rfl) (by kernel_rfl) (by kernel_rfl) rfl rfl rfl (fun F hs => .nilCheck rfl) (by kernel_rfl) (listed' := #[true, true, true, true, true, true, true, false, true, false, true, true, false, false, false, false, false, false, false, false, false, false, false, false, false, false, false, false, false]) ?_
      refine As.take 12 rfl (by kernel_rfl) (by kernel_rfl) (by kernel_rfl) rfl rfl rfl (fun F hs => .fieldAddr rfl fa73_0) (by kernel_rfl) (listed' := #[true, true, true, true, true, true, true, false, true, false, true, true, true, false, false, false, false, false, false, false, false, false, false, false, false, false, false, false, false]) ?_
      refine As.take 13 rfl (by kernel_rfl) (by kernel_rfl) (by kernel_rfl) rfl rfl rfl (fun F hs => .fieldAddr rfl fa70_3) (by kernel_rfl) (listed' := #[true, true, true, true, true, true, true, false, true, false, true, true, true, true, false, false, false, false, false, false, false, false, false, false, false, false, false, false, false]) ?_
      refine As.take 15 rfl (by kernel_rfl) (by kernel_rfl) (by kernel_rfl) rfl rfl rfl (fun F hs => .move rfl) (by kernel_rfl) (listed' := #[true, true, true, true, true, true, true, false, true, false, true, true, true, true, false, true, false, false, false, false, false, false, false, false, false, false, false, false, false]) ?_
      refine As.two (i := 7) (j := 14) (by kernel_rfl) ?_ ?_
      ·
        refine Ao.st rfl (.loadP rfl (by repeat first | exact TakeP.here _ | apply TakeP.there) Try.isAgg3 rfl) rfl rfl rfl (by kernel_rfl) (listed' := #[true, true, true, true, true, true, true, true, true, false, true, true, true, true, false, true, false, false, false, false, false, false, false, false, false, false, false, false, false]) ?_
        refine As.take 9 rfl (by kernel_rfl) (by kernel_rfl) (by kernel_rfl) rfl rfl rfl (fun F hs => .add rfl rfl (by first | exact IntWalk.i64_in _ (by omega) | rfl)) (by kernel_rfl) (listed' := #[true, true, true, true, true, true, true, true, true, true, true, true, true, true, false, true, false, false, false, false, false, false, false, false, false, false, false, false, false]) ?_
        refine As.one (i := 14) (by kernel_rfl) ?_
        refine Ao.st rfl (.loadP rfl (by repeat first | exact TakeP.here _ | apply TakeP.there) Try.isAgg3 rfl) rfl rfl rfl (by kernel_rfl) (listed' := #[true, true, true, true, true, true, true, true, true, true, true, true, true, true, true, true, false, false, false, false, false, false, false, false, false, false, false, false, false]) ?_
        refine As.take 16 rfl (by kernel_rfl) (by kernel_rfl) (by kernel_rfl) rfl rfl rfl (fun F hs => .sub rfl rfl (by first | exact IntWalk.i64_in _ (by omega) | rfl)) (by kernel_rfl) (listed' := #[true, true, true, true, true, true, true, true, true, true, true, true, true, true, true, true, true, false, false, false, false, false, false, false, false, false, false, false, false]) ?_
        refine As.take 17 rfl (by kernel_rfl) (by kernel_rfl) (by kernel_rfl) rfl rfl rfl (fun F hs => .nilCheck rfl) (by kernel_rfl) (listed' := #[true, true, true, true, true, true, true, true, true, true, true, true, true, true, true, true, true, true, false, false, false, false, false, false, false, false, false, false, false]) ?_
        refine As.take 18 rfl (by kernel_rfl) (by kernel_rfl) (by kernel_rfl) rfl rfl rfl (fun F hs => .fieldAddr rfl fa73_0) (by kernel_rfl) (listed' := #[true, true, true, true, true, true, true, true, true, true, true, true, true, true, true, true, true, true, true, false, false, false, false, false, false, false, false, false, false]) ?_
        refine As.take 19 rfl (by kernel_rfl) (by kernel_rfl) (by kernel_rfl) rfl rfl rfl (fun F hs => .fieldAddr rfl fa70_2) (by kernel_rfl) (listed' := #[true, true, true, true, true, true, true, true, true, true, true, true, true, true, true, true, true, true, true, true, false, false, false, false, false, false, false, false, false]) ?_
        refine As.one (i := 20) (by kernel_rfl) ?_
        refine Ao.ef10 rfl (.store rfl rfl (by repeat first | exact TakeP.here _ | apply TakeP.there) Try.sizeOf3 rfl rfl (by simp only [Nat.zero_add, List.set_cons_zero, List.set_cons_succ]; rfl)) rfl rfl (by kernel_rfl) (listed' := #[true, true, true, true, true, true, true, true, true, true, true, true, true, true, true, true, true, true, true, true, true, false, false, false, false, false, false, false, false]) ?_
        refine As.take 21 rfl (by kernel_rfl) (by kernel_rfl) (by kernel_rfl) rfl rfl rfl (fun F hs => .nilCheck rfl) (by kernel_rfl) (listed' := #[true, true, true, true, true, true, true, true, true, true, true, true, true, true, true, true, true, true, true, true, true, true, false, false, false, false, false, false, false]) ?_
        refine As.take 22 rfl (by kernel_rfl) (by kernel_rfl) (by kernel_rfl) rfl rfl rfl (fun F hs => .fieldAddr rfl fa73_0) (by kernel_rfl) (listed' := #[true, true, true, true, true, true, true, true, true, true, true, true, true, true, true, true, true, true, true, true, true, true, true, false, false, false, false, false, false]) ?_
        refine As.take 23 rfl (by kernel_rfl) (by kernel_rfl) (by kernel_rfl) rfl rfl rfl (fun F hs => .fieldAddr rfl fa70_3) (by kernel_rfl) (listed' := #[true, true, true, true, true, true, true, true, true, true, true, true, true, true, true, true, true, true, true, true, true, true, true, true, false, false, false, false, false]) ?_
        refine As.one (i := 24) (by kernel_rfl) ?_
        refine Ao.ef10 rfl (.store rfl rfl (by repeat first | exact TakeP.here _ | apply TakeP.there) Try.sizeOf3 rfl rfl (by simp only [Nat.zero_add, List.set_cons_zero, List.set_cons_succ]; rfl)) rfl rfl (by kernel_rfl) (listed' := #[true, true, true, true, true, true, true, true, true, true, true, true, true, true, true, true, true, true, true, true, true, true, true, true, true, false, false, false, false]) ?_
        refine As.take 25 rfl (by kernel_rfl) (by kernel_rfl) (by kernel_rfl) rfl rfl rfl (fun F hs => .nilCheck rfl) (by kernel_rfl) (listed' := #[true, true, true, true, true, true, true, true, true, true, true, true, true, true, true, true, true, true, true, true, true, true, true, true, true, true, false, false, false]) ?_
        refine As.take 26 rfl (by kernel_rfl) (by kernel_rfl) (by kernel_rfl) rfl rfl rfl (fun F hs => .fieldAddr rfl fa73_0) (by kernel_rfl) (listed' := #[true, true, true, true, true, true, true, true, true, true, true, true, true, true, true, true, true, true, true, true, true, true, true, true, true, true, true, false, false]) ?_
        refine As.take 27 rfl (by kernel_rfl) (by kernel_rfl) (by kernel_rfl) rfl rfl rfl (fun F hs => .fieldAddr rfl fa70_5) (by kernel_rfl) (listed' := #[true, true, true, true, true, true, true, true, true, true, true, true, true, true, true, true, true, true, true, true, true, true, true, true, true, true, true, true, false]) ?_
        refine As.one (i := 28) (by kernel_rfl) ?_
        refine Ao.ef10 rfl (.store rfl rfl (by repeat first | exact TakeP.here _ | apply TakeP.there) Try.sizeOf3 rfl rfl (by simp only [Nat.zero_add, List.set_cons_zero, List.set_cons_succ]; rfl)) rfl rfl (by kernel_rfl) (listed' := #[true, true, true, true, true, true, true, true, true, true, true, true, true, true, true, true, true, true, true, true, true, true, true, true, true, true, true, true, true]) ?_
        refine As.done (by kernel_rfl) ?_
        exact Ext.ret0EN rfl (Ent.fold1 (A := link b h0 { L with wait := L.wait.drop m, f := L.f + m, s := L.s - m, t := 0 }) (by repeat' first | exact Takes.nil _ | exact TakeP.here _ | apply TakeP.there | apply Takes.cons) (link_mk (L := { L with wait := L.wait.drop m, f := L.f + m, s := L.s - m, t := 0 }) hu (hbs.drop m) hok)) (rfl)
      ·
        refine Ao.st rfl (.loadP rfl (by repeat first | exact TakeP.here _ | apply TakeP.there) Try.isAgg3 rfl) rfl rfl rfl (by kernel_rfl) (listed' := #[true, true, true, true, true, true, true, false, true, false, true, true, true, true, true, true, false, false, false, false, false, false, false, false, false, false, false, false, false]) ?_
        refine As.take 16 rfl (by kernel_rfl) (by kernel_rfl) (by kernel_rfl) rfl rfl rfl (fun F hs => .sub rfl rfl (by first | exact IntWalk.i64_in _ (by omega) | rfl)) (by kernel_rfl) (listed' := #[true, true, true, true, true, true, true, false, true, false, true, true, true, true, true, true, true, false, false, false, false, false, false, false, false, false, false, false, false]) ?_
        refine As.one (i := 7) (by kernel_rfl) ?_
        refine Ao.st rfl (.loadP rfl (by repeat first | exact TakeP.here _ | apply TakeP.there) Try.isAgg3 rfl) rfl rfl rfl (by kernel_rfl) (listed' := #[true, true, true, true, true, true, true, true, true, false, true, true, true, true, true, true, true, false, false, false, false, false, false, false, false, false, false, false, false]) ?_
        refine As.take 9 rfl (by kernel_rfl) (by kernel_rfl) (by kernel_rfl) rfl rfl rfl (fun F hs => .add rfl rfl (by first | exact IntWalk.i64_in _ (by omega) | rfl)) (by kernel_rfl) (listed' := #[true, true, true, true, true, true, true, true, true, true, true, true, true, true, true, true, true, false, false, false, false, false, false, false, false, false, false, false, false]) ?_
        refine As.take 17 rfl (by kernel_rfl) (by kernel_rfl) (by kernel_rfl) rfl rfl rfl (fun F hs => .nilCheck rfl) (by kernel_rfl) (listed' := #[true, true, true, true, true, true, true, true, true, true, true, true, true, true, true, true, true, true, false, false, false, false, false, false, false, false, false, false, false]) ?_
        refine As.take 18 rfl (by kernel_rfl) (by kernel_rfl) (by kernel_rfl) rfl rfl rfl (fun F hs => .fieldAddr rfl fa73_0) (by kernel_rfl) (listed' := #[true, true, true, true, true, true, true, true, true, true, true, true, true, true, true, true, true, true, true, false, false, false, false, false, false, false, false, false, false]) ?_
        refine As.take 19 rfl (by kernel_rfl) (by kernel_rfl) (by kernel_rfl) rfl rfl rfl (fun F hs => .fieldAddr rfl fa70_2) (by kernel_rfl) (listed' := #[true, true, true, true, true, true, true, true, true, true, true, true, true, true, true, true, true, true, true, true, false, false, false, false, false, false, false, false, false]) ?_
        refine As.one (i := 20) (by kernel_rfl) ?_
        refine Ao.ef10 rfl (.store rfl rfl (by repeat first | exact TakeP.here _ | apply TakeP.there) Try.sizeOf3 rfl rfl (by simp only [Nat.zero_add, List.set_cons_zero, List.set_cons_succ]; rfl)) rfl rfl (by kernel_rfl) (listed' := #[true, true, true, true, true, true, true, true, true, true, true, true, true, true, true, true, true, true, true, true, true, false, false, false, false, false, false, false, false]) ?_
        refine As.take 21 rfl (by kernel_rfl) (by kernel_rfl) (by kernel_rfl) rfl rfl rfl (fun F hs => .nilCheck rfl) (by kernel_rfl) (listed' := #[true, true, true, true, true, true, true, true, true, true, true, true, true, true, true, true, true, true, true, true, true, true, false, false, false, false, false, false, false]) ?_
        refine As.take 22 rfl (by kernel_rfl) (by kernel_rfl) (by kernel_rfl) rfl rfl rfl (fun F hs => .fieldAddr rfl fa73_0) (by kernel_rfl) (listed' := #[true, true, true, true, true, true, true, true, true, true, true, true, true, true, true, true, true, true, true, true, true, true, true, false, false, false, false, false, false]) ?_
        refine As.take 23 rfl (by kernel_rfl) (by kernel_rfl) (by kernel_rfl) rfl rfl rfl (fun F hs => .fieldAddr rfl fa70_3) (by kernel_rfl) (listed' := #[true, true, true, true, true, true, true, true, true, true, true, true, true, true, true, true, true, true, true, true, true, true, true, true, false, false, false, false, false]) ?_
        refine As.one (i := 24) (by kernel_rfl) ?_
        refine Ao.ef10 rfl (.store rfl rfl (by repeat first | exact TakeP.here _ | apply TakeP.there) Try.sizeOf3 rfl rfl (by simp only [Nat.zero_add, List.set_cons_zero, List.set_cons_succ]; rfl)) rfl rfl (by kernel_rfl) (listed' := #[true, true, true, true, true, true, true, true, true, true, true, true, true, true, true, true, true, true, true, true, true, true, true, true, true, false, false, false, false]) ?_
        refine As.take 25 rfl (by kernel_rfl) (by kernel_rfl) (by kernel_rfl) rfl rfl rfl (fun F hs => .nilCheck rfl) (by kernel_rfl) (listed' := #[true, true, true, true, true, true, true, true, true, true, true, true, true, true, true, true, true, true, true, true, true, true, true, true, true, true, false, false, false]) ?_
        refine As.take 26 rfl (by kernel_rfl) (by kernel_rfl) (by kernel_rfl) rfl rfl rfl (fun F hs => .fieldAddr rfl fa73_0) (by kernel_rfl) (listed' := #[true, true, true, true, true, true, true, true, true, true, true, true, true, true, true, true, true, true, true, true, true, true, true, true, true, true, true, false, false]) ?_
        refine As.take 27 rfl (by kernel_rfl) (by kernel_rfl) (by kernel_rfl) rfl rfl rfl (fun F hs => .fieldAddr rfl fa70_5) (by kernel_rfl) (listed' := #[true, true, true, true, true, true, true, true, true, true, true, true, true, true, true, true, true, true, true, true, true, true, true, true, true, true, true, true, false]) ?_
        refine As.one (i := 28) (by kernel_rfl) ?_
        refine Ao.ef10 rfl (.store rfl rfl (by repeat first | exact TakeP.here _ | apply TakeP.there) Try.sizeOf3 rfl rfl (by simp only [Nat.zero_add, List.set_cons_zero, List.set_cons_succ]; rfl)) rfl rfl (by kernel_rfl) (listed' := #[true, true, true, true, true, true, true, true, true, true, true, true, true, true, true, true, true, true, true, true, true, true, true, true, true, true, true, true, true]) ?_
        refine As.done (by kernel_rfl) ?_
        exact Ext.ret0EN rfl (Ent.fold1 (A := link b h0 { L with wait := L.wait.drop m, f := L.f + m, s := L.s - m, t := 0 }) (by repeat' first | exact Takes.nil _ | exact TakeP.here _ | apply TakeP.there | apply Takes.cons) (link_mk (L := { L with wait := L.wait.drop m, f := L.f + m, s := L.s - m, t := 0 }) hu (hbs.drop m) hok)) (rfl)
    ·
      refine Cod.skip ?_
      exact Ext.ret0EN rfl (Ent.fold (by repeat' first | exact Takes.nil _ | exact TakeP.here _ | apply TakeP.there | apply Takes.cons) (link_mk hwv hbs ok)) ((by unfold LkM.gone; rw [if_neg (by omega)]))
  ·
    refine Ops.skipG rfl rfl rfl (decide_eq_false h1) rfl rfl ?_
    refine Ops.skipG rfl rfl rfl (decide_eq_false h1) rfl rfl ?_
    refine Ops.skipG rfl rfl rfl (decide_eq_false h1) rfl rfl ?_
    refine Ops.skipG rfl rfl rfl (decide_eq_false h1) rfl rfl ?_
    refine Ops.skipG rfl rfl rfl (decide_eq_false h1) rfl rfl ?_
    refine Ops.skipG rfl rfl rfl (decide_eq_false h1) rfl rfl ?_
    refine Ops.skipG rfl rfl rfl (decide_eq_false h1) rfl rfl ?_
    refine Ops.st (.pickF rfl (decide_eq_false h1) rfl) rfl rfl rfl ?_
    refine Ops.nil ?_
    refine Ext.seq ?_
    refine Cod.condF rfl (by simp) ?_
    refine Cod.skip ?_
    exact Ext.ret0EN rfl (Ent.fold (by repeat' first | exact Takes.nil _ | exact TakeP.here _ | apply TakeP.there | apply Takes.cons) (link_mk hwv hbs ok)) ((by unfold LkM.gone; rw [if_neg (by omega)]))
end Go.Proofs.Ytjlimnckdblkhaa
