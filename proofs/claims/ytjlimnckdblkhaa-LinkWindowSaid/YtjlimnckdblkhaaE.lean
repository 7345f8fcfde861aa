/- A link with its bodies: copies, Send. No condition. -/
import Derived.Test.YtjlimnckdblkhaaC
import Derived.Test.YtjlimnckdblkhaaLG
namespace Go.Proofs.Ytjlimnckdblkhaa
open Go

theorem clone22_any {F : Fr} {v : Value} {n : Nat} {xs : List Value} (hr : SlR F.hf v 1 n xs) (hn : n ≤ 70368744177664) : Spec Try.prog F 36 [v] [] (fun u hs' => Sl u ∧ hs' = [vec u 5 1 n xs]) := by
  refine Spec.body Try.func36 rfl Try.ntmps36 rfl ?_
  refine Cod.seq ?_
  refine Cod.region ?_
  refine Ops.st (.assign rfl) rfl rfl rfl ?_
  refine Ops.nil ?_
  refine Ext.seq ?_
  refine Cod.seq ?_
  refine Cod.seq ?_
  refine Cod.region ?_
  refine Ops.st (.move rfl) rfl rfl rfl ?_
  refine Ops.st (.eqNil rfl rfl (Rd.ro hr) Try.underlying22) rfl rfl rfl ?_
  refine Ops.nil ?_
  refine Ext.seq ?_
  refine Cod.cond rfl (fun h => ?_) (fun h => ?_)
  ·
    refine Cod.seq ?_
    refine Cod.region ?_
    obtain ⟨rfl, rfl, rfl⟩ := hr.isNil h
    refine Ops.st (.assign rfl) rfl rfl rfl ?_
    refine Ops.nil ?_
    refine Ext.seq ?_
    exact Cod.ret (Ext.seqR (Ext.retE rfl rfl Ent.vecNil (⟨Sl.nil, rfl⟩)))
  ·
    refine Cod.skip ?_
    refine Ext.seq ?_
    refine Cod.seq ?_
    refine Cod.region ?_
    refine Ops.ef (.lit1 ei22 rfl rfl rfl (by repeat' first | exact One.nil | apply One.cons rfl | (apply One.cons (Sl.one (by assumption))))) rfl rfl rfl ?_
    rintro e0 _ ⟨he0, rfl⟩
    refine Ops.st (.move rfl) rfl rfl rfl ?_
    refine Ops.ef (.append rfl rfl (by repeat first | exact TakeP.here _ | apply TakeP.there) (Rd.ro hr) ei22 (by omega) (by simp only [maxLen]; omega)) rfl rfl rfl ?_
    rintro e1 _ ⟨he1, rfl⟩
    rw [Nat.zero_add, List.nil_append]
    refine Ops.st (.assign rfl) rfl rfl rfl ?_
    refine Ops.nil ?_
    refine Ext.seq ?_
    exact Cod.ret (Ext.ret rfl rfl ⟨he1, rfl⟩)

theorem clone43_any {F : Fr} {v : Value} {n : Nat} {xs : List Value} (hr : SlR F.hf v 1 n xs) (hn : n ≤ 1000000) : Spec Try.prog F 41 [v] [] (fun u hs' => Sl u ∧ hs' = [vec u 22 1 n xs]) := by
  refine Spec.body Try.func41 rfl Try.ntmps41 rfl ?_
  refine Cod.seq ?_
  refine Cod.region ?_
  refine Ops.st (.assign rfl) rfl rfl rfl ?_
  refine Ops.nil ?_
  refine Ext.seq ?_
  refine Cod.seq ?_
  refine Cod.seq ?_
  refine Cod.region ?_
  refine Ops.st (.move rfl) rfl rfl rfl ?_
  refine Ops.st (.eqNil rfl rfl (Rd.ro hr) Try.underlying43) rfl rfl rfl ?_
  refine Ops.nil ?_
  refine Ext.seq ?_
  refine Cod.cond rfl (fun h => ?_) (fun h => ?_)
  ·
    refine Cod.seq ?_
    refine Cod.region ?_
    obtain ⟨rfl, rfl, rfl⟩ := hr.isNil h
    refine Ops.st (.assign rfl) rfl rfl rfl ?_
    refine Ops.nil ?_
    refine Ext.seq ?_
    exact Cod.ret (Ext.seqR (Ext.retE rfl rfl Ent.vecNil (⟨Sl.nil, rfl⟩)))
  ·
    refine Cod.skip ?_
    refine Ext.seq ?_
    refine Cod.seq ?_
    refine Cod.region ?_
    refine Ops.ef (.lit1 ei43 rfl rfl rfl (by repeat' first | exact One.nil | apply One.cons rfl | (apply One.cons (Sl.one (by assumption))))) rfl rfl rfl ?_
    rintro e0 _ ⟨he0, rfl⟩
    refine Ops.st (.move rfl) rfl rfl rfl ?_
    refine Ops.ef (.append rfl rfl (by repeat first | exact TakeP.here _ | apply TakeP.there) (Rd.ro hr) ei43 (by omega) (by simp only [maxLen]; omega)) rfl rfl rfl ?_
    rintro e1 _ ⟨he1, rfl⟩
    rw [Nat.zero_add, List.nil_append]
    refine Ops.st (.assign rfl) rfl rfl rfl ?_
    refine Ops.nil ?_
    refine Ext.seq ?_
    exact Cod.ret (Ext.ret rfl rfl ⟨he1, rfl⟩)

/-- Bodies that stand in the ice. -/
inductive Bods (h : Hp) : List Value → List (List UInt8) → Prop
  | nil : Bods h [] []
  | cons {v : Value} {b : List UInt8} {vs : List Value} {bs : List (List UInt8)} (hb : SlR h v 1 b.length (u8s b)) (hr : Bods h vs bs) : Bods h (v :: vs) (b :: bs)
theorem Bods.len {h : Hp} {vs : List Value} {bs : List (List UInt8)} (x : Bods h vs bs) : vs.length = bs.length := by induction x with | nil => rfl | cons _ _ ih => simp [ih]
theorem Bods.mono {h h' : Hp} {vs : List Value} {bs : List (List UInt8)} (x : Bods h vs bs) (l : Hp.le h h') : Bods h' vs bs := by
  induction x with
  | nil => exact .nil
  | cons hb _ ih => exact .cons (hb.mono l) ih
theorem Bods.app {h : Hp} {vs ws : List Value} {bs cs : List (List UInt8)} (x : Bods h vs bs) (y : Bods h ws cs) : Bods h (vs ++ ws) (bs ++ cs) := by
  induction x with
  | nil => exact y
  | cons hb _ ih => exact .cons hb ih
theorem Bods.drop {h : Hp} {vs : List Value} {bs : List (List UInt8)} (x : Bods h vs bs) (n : Nat) : Bods h (vs.drop n) (bs.drop n) := by
  induction x generalizing n with
  | nil => simpa using Bods.nil
  | cons hb hr ih => cases n with | zero => exact .cons hb hr | succ n => simpa using ih n
theorem Bods.get {h : Hp} {vs : List Value} {bs : List (List UInt8)} (x : Bods h vs bs) {i : Nat} {b : List UInt8} (hi : bs[i]? = some b) : ∃ v, vs[i]? = some v ∧ SlR h v 1 b.length (u8s b) := by
  induction x generalizing i with
  | nil => simp at hi
  | cons hb _ ih => cases i with | zero => simp at hi; subst hi; exact ⟨_, rfl, hb⟩ | succ i => simpa using ih (by simpa using hi)
theorem Bods.one {h : Hp} {vs : List Value} {bs : List (List UInt8)} (x : Bods h vs bs) : One vs := by
  induction x with
  | nil => exact One.nil
  | cons hb _ ih => exact One.cons hb.sl.one ih

/-- A link: what hangs on the peer, and what waits. -/
structure LkM where
  e : Int
  p : Int
  f : Int
  s : Int
  nx : Int
  t : Int
  wait : List (List UInt8)
structure LkM.Ok (L : LkM) : Prop where
  e : 1 ≤ L.e ∧ L.e ≤ 1073741824
  p : 0 ≤ L.p ∧ L.p ≤ 1073741824
  f : 1 ≤ L.f ∧ L.f ≤ 1073741825
  s : 0 ≤ L.s ∧ L.s ≤ 4 ∧ L.s ≤ L.wait.length
  nx : 1 ≤ L.nx ∧ L.nx ≤ 1073741825
  t : 0 ≤ L.t ∧ L.t ≤ 2
  wait : L.wait.length ≤ 16
  each : ∀ b ∈ L.wait, b.length ≤ 1500
structure LI where
  wv : Value
  bvs : List Value
abbrev lkI (b : Nat) (L : LkM) (x : LI) : List SP := [pt b 73 (lkC L.e L.p L.f L.s L.nx L.t x.wv), vec x.wv 22 1 L.wait.length x.bvs]
def link (b : Nat) (h : Hp) (L : LkM) (z : Hp) : Prop := ∃ x, (Sl x.wv ∧ Bods h x.bvs L.wait ∧ L.Ok) ∧ SL (lkI b L x) z
theorem link_open (b : Nat) (h : Hp) (L : LkM) : ∀ z, link b h L z → ∃ x, (Sl x.wv ∧ Bods h x.bvs L.wait ∧ L.Ok) ∧ SL (lkI b L x) z := fun _ h => h
theorem link_mk {b : Nat} {h : Hp} {L : LkM} {wv : Value} {bvs : List Value} (hw : Sl wv) (hb : Bods h bvs L.wait) (ok : L.Ok) : ∀ z, SL [pt b 73 (lkC L.e L.p L.f L.s L.nx L.t wv), vec wv 22 1 L.wait.length bvs] z → link b h L z :=
  fun _ hz => ⟨⟨wv, bvs⟩, ⟨hw, hb, ok⟩, hz⟩
def LkM.send (L : LkM) (b : List UInt8) : Int × LkM := if b.length > 1500 then (1, L) else if L.wait.length ≥ 16 then (3, L) else (0, { L with wait := L.wait ++ [b] })

theorem LkM.Ok.sent {L : LkM} (ok : L.Ok) {b : List UInt8} (h1 : ¬ b.length > 1500) (h2 : ¬ L.wait.length ≥ 16) : ({ L with wait := L.wait ++ [b] } : LkM).Ok :=
  ⟨ok.e, ok.p, ok.f, ⟨ok.s.1, ok.s.2.1, by have := ok.s.2.2; simp only [List.length_append, List.length_singleton]; omega⟩, ok.nx, ok.t, by simp only [List.length_append, List.length_singleton]; omega, fun c hc => by
    rcases List.mem_append.1 hc with h | h
    · exact ok.each c h
    · rw [List.mem_singleton.1 h]; omega⟩
theorem send_any {F : Fr} {b : Nat} {h0 : Hp} {L : LkM} {v : Value} {bs : List UInt8} (hr : Ro F h0 v 1 bs.length (u8s bs)) :
    Spec Try.prog F 18 [.pointer (some ⟨b, 0, none⟩), v] [ice h0, link b h0 L] (fun u hs' => ∃ h1, Hp.le h0 h1 ∧ u = .int .i64 (L.send bs).1 ∧ hs' = [ice h1, link b h1 (L.send bs).2]) := by
  refine Spec.pre ?_ (Ent.swap _ _ _)
  refine Spec.open_ (link_open b h0 L) ?_
  rintro ⟨wv, bvs⟩ ⟨hwv, hbs, ok⟩
  dsimp only [lkI, List.cons_append, List.nil_append] at hwv hbs ⊢
  refine Spec.body Try.func18 rfl Try.ntmps18 rfl ?_
  refine Cod.seq ?_
  refine Cod.region ?_
  refine Ops.st (.assign rfl) rfl rfl rfl ?_
  refine Ops.nil ?_
  refine Ext.seq ?_
  refine Cod.seq ?_
  refine Cod.block ?_
  refine Cod.seq ?_
  refine Cod.region ?_
  refine Ops.st (.move rfl) rfl rfl rfl ?_
  refine Ops.st (.len rfl (hr.rd (by repeat first | exact TakeP.here _ | apply TakeP.there)) Try.runUnderlying22) rfl rfl rfl ?_
  refine Ops.st (.gtr rfl rfl) rfl rfl rfl ?_
  refine Ops.st (.assign rfl) rfl rfl rfl ?_
  refine Ops.nil ?_
  refine Ext.seq ?_
  refine Cod.condD rfl (fun h1 => ?_) (fun h1 => ?_)
  ·
    refine Cod.seq ?_
    refine Cod.region ?_
    refine Ops.st (.assign rfl) rfl rfl rfl ?_
    refine Ops.nil ?_
    refine Ext.seq ?_
    exact Cod.ret (Ext.blockR (Ext.seqR (Ext.retE rfl rfl ((Ent.fold (by repeat' first | exact Takes.nil _ | exact TakeP.here _ | apply TakeP.there | apply Takes.cons) (link_mk hwv hbs ok)).trans (Ent.swap _ _ _)) (⟨h0, Hp.le_refl _, by rw [LkM.send, if_pos (by omega)], by rw [LkM.send, if_pos (by omega)]⟩))))
  ·
    refine Cod.seq ?_
    refine Cod.region ?_
    have h1' : ¬ bs.length > 1500 := by omega
    refine Ops.st (.move rfl) rfl rfl rfl ?_
    refine Ops.st (.nilCheck rfl) rfl rfl rfl ?_
    refine Ops.st (.fieldAddr rfl fa73_1) rfl rfl rfl ?_
    refine Ops.st (.loadP rfl (by repeat first | exact TakeP.here _ | apply TakeP.there) Try.isAgg43 rfl) rfl rfl rfl ?_
    refine Ops.st (.len rfl (Rd.vec (v := wv) (by repeat first | exact TakeP.here _ | apply TakeP.there)) Try.runUnderlying43) rfl rfl rfl ?_
    refine Ops.st (.geq rfl rfl) rfl rfl rfl ?_
    refine Ops.st (.assign rfl) rfl rfl rfl ?_
    refine Ops.nil ?_
    refine Ext.seq ?_
    refine Cod.condD rfl (fun h2' => ?_) (fun h2' => ?_)
    ·
      refine Cod.seq ?_
      refine Cod.region ?_
      refine Ops.st (.assign rfl) rfl rfl rfl ?_
      refine Ops.nil ?_
      refine Ext.seq ?_
      exact Cod.ret (Ext.blockR (Ext.seqR (Ext.retE rfl rfl ((Ent.fold (by repeat' first | exact Takes.nil _ | exact TakeP.here _ | apply TakeP.there | apply Takes.cons) (link_mk hwv hbs ok)).trans (Ent.swap _ _ _)) (⟨h0, Hp.le_refl _, by rw [LkM.send, if_neg (by omega), if_pos (by omega)], by rw [LkM.send, if_neg (by omega), if_pos (by omega)]⟩))))
    ·
      refine Cod.skip ?_
      refine Ext.block ?_
      refine Ext.seq ?_
      refine Cod.seq ?_
      refine Cod.cutK (fun g : Value × Value => ⟨Sl g.1 ∧ Sl g.2, [(0, .pointer (some ⟨b, 0, none⟩))], [pt b 73 (lkC L.e L.p L.f L.s L.nx L.t g.1), vec g.1 22 1 (L.wait.length + 1) (bvs ++ [g.2]), vec g.2 5 1 bs.length (u8s bs), ice h0]⟩) ?_ ?_
      ·
        refine Cod.regionA mixed (by kernel_rfl) (listed := #[false, false, false, false, false, false, false, false, false, false, false, false]) ?_
        refine As.take 0 rfl (by kernel_rfl) (by kernel_rfl) (by kernel_rfl) rfl rfl rfl (fun F hs => .move rfl) (by kernel_rfl) (listed' := #[true, false, false, false, false, false, false, false, false, false, false, false]) ?_
        refine As.take 1 rfl (by kernel_rfl) (by kernel_rfl) (by kernel_rfl) rfl rfl rfl (fun F hs => .move rfl) (by kernel_rfl) (listed' := #[true, true, false, false, false, false, false, false, false, false, false, false]) ?_
        refine As.take 2 rfl (by kernel_rfl) (by kernel_rfl) (by kernel_rfl) rfl rfl rfl (fun F hs => .nilCheck rfl) (by kernel_rfl) (listed' := #[true, true, true, false, false, false, false, false, false, false, false, false]) ?_
        refine As.take 3 rfl (by kernel_rfl) (by kernel_rfl) (by kernel_rfl) rfl rfl rfl (fun F hs => .fieldAddr rfl fa73_1) (by kernel_rfl) (listed' := #[true, true, true, true, false, false, false, false, false, false, false, false]) ?_
        refine As.take 5 rfl (by kernel_rfl) (by kernel_rfl) (by kernel_rfl) rfl rfl rfl (fun F hs => .move rfl) (by kernel_rfl) (listed' := #[true, true, true, true, false, true, false, false, false, false, false, false]) ?_
        refine As.two (i := 4) (j := 6) (by kernel_rfl) ?_ ?_
        ·
          refine Ao.st rfl (.loadP rfl (by repeat first | exact TakeP.here _ | apply TakeP.there) Try.isAgg43 rfl) rfl rfl rfl (by kernel_rfl) (listed' := #[true, true, true, true, true, true, false, false, false, false, false, false]) ?_
          refine As.one (i := 6) (by kernel_rfl) ?_
          refine Ao.call rfl ⟨Try.call36⟩ rfl rfl rfl (by repeat' first | exact Takes.nil _ | exact TakeP.here _ | apply TakeP.there | apply Takes.cons) (fun F' hF => clone22_any ((hr.rd (by repeat first | exact TakeP.here _ | apply TakeP.there)).wider hF) (by omega)) rfl rfl rfl (by kernel_rfl) (listed' := #[true, true, true, true, true, true, true, false, false, false, false, false]) ?_
          rintro u _ ⟨hu, rfl⟩
          refine As.one (i := 7) (by kernel_rfl) ?_
          refine Ao.ef rfl (.lit1 ei43 rfl rfl rfl (by repeat' first | exact One.nil | apply One.cons rfl | (apply One.cons (Sl.one (by assumption))))) rfl rfl rfl (by kernel_rfl) (listed' := #[true, true, true, true, true, true, true, true, false, false, false, false]) ?_
          rintro lv _ ⟨hlv, rfl⟩
          refine As.one (i := 8) (by kernel_rfl) ?_
          refine Ao.ef rfl (.append (v := wv) rfl rfl (by repeat first | exact TakeP.here _ | apply TakeP.there) (Rd.vec (v := lv) (by repeat first | exact TakeP.here _ | apply TakeP.there)) ei43 (by omega) (by simp only [maxLen]; omega)) rfl rfl rfl (by kernel_rfl) (listed' := #[true, true, true, true, true, true, true, true, true, false, false, false]) ?_
          rintro nv _ ⟨hnv, rfl⟩
          refine As.take 9 rfl (by kernel_rfl) (by kernel_rfl) (by kernel_rfl) rfl rfl rfl (fun F hs => .nilCheck rfl) (by kernel_rfl) (listed' := #[true, true, true, true, true, true, true, true, true, true, false, false]) ?_
          refine As.take 10 rfl (by kernel_rfl) (by kernel_rfl) (by kernel_rfl) rfl rfl rfl (fun F hs => .fieldAddr rfl fa73_1) (by kernel_rfl) (listed' := #[true, true, true, true, true, true, true, true, true, true, true, false]) ?_
          refine As.one (i := 11) (by kernel_rfl) ?_
          refine Ao.ef10 rfl (.store rfl rfl (by repeat first | exact TakeP.here _ | apply TakeP.there) Try.sizeOf43 rfl hnv.one (by simp only [Nat.zero_add, List.set_cons_zero, List.set_cons_succ]; rfl)) rfl rfl (by kernel_rfl) (listed' := #[true, true, true, true, true, true, true, true, true, true, true, true]) ?_
          refine As.done (by kernel_rfl) ?_
          exact Ext.at_ (nv, u) ⟨hnv, hu⟩ ⟨rfl, trivial⟩ (Ent.take (by repeat' first | exact Takes.nil _ | exact TakeP.here _ | apply TakeP.there | apply Takes.cons))
        ·
          refine Ao.call rfl ⟨Try.call36⟩ rfl rfl rfl (by repeat' first | exact Takes.nil _ | exact TakeP.here _ | apply TakeP.there | apply Takes.cons) (fun F' hF => clone22_any ((hr.rd (by repeat first | exact TakeP.here _ | apply TakeP.there)).wider hF) (by omega)) rfl rfl rfl (by kernel_rfl) (listed' := #[true, true, true, true, false, true, true, false, false, false, false, false]) ?_
          rintro u _ ⟨hu, rfl⟩
          refine As.two (i := 4) (j := 7) (by kernel_rfl) ?_ ?_
          ·
            refine Ao.st rfl (.loadP rfl (by repeat first | exact TakeP.here _ | apply TakeP.there) Try.isAgg43 rfl) rfl rfl rfl (by kernel_rfl) (listed' := #[true, true, true, true, true, true, true, false, false, false, false, false]) ?_
            refine As.one (i := 7) (by kernel_rfl) ?_
            refine Ao.ef rfl (.lit1 ei43 rfl rfl rfl (by repeat' first | exact One.nil | apply One.cons rfl | (apply One.cons (Sl.one (by assumption))))) rfl rfl rfl (by kernel_rfl) (listed' := #[true, true, true, true, true, true, true, true, false, false, false, false]) ?_
            rintro lv _ ⟨hlv, rfl⟩
            refine As.one (i := 8) (by kernel_rfl) ?_
            refine Ao.ef rfl (.append (v := wv) rfl rfl (by repeat first | exact TakeP.here _ | apply TakeP.there) (Rd.vec (v := lv) (by repeat first | exact TakeP.here _ | apply TakeP.there)) ei43 (by omega) (by simp only [maxLen]; omega)) rfl rfl rfl (by kernel_rfl) (listed' := #[true, true, true, true, true, true, true, true, true, false, false, false]) ?_
            rintro nv _ ⟨hnv, rfl⟩
            refine As.take 9 rfl (by kernel_rfl) (by kernel_rfl) (by kernel_rfl) rfl rfl rfl (fun F hs => .nilCheck rfl) (by kernel_rfl) (listed' := #[true, true, true, true, true, true, true, true, true, true, false, false]) ?_
            refine As.take 10 rfl (by kernel_rfl) (by kernel_rfl) (by kernel_rfl) rfl rfl rfl (fun F hs => .fieldAddr rfl fa73_1) (by kernel_rfl) (listed' := #[true, true, true, true, true, true, true, true, true, true, true, false]) ?_
            refine As.one (i := 11) (by kernel_rfl) ?_
            refine Ao.ef10 rfl (.store rfl rfl (by repeat first | exact TakeP.here _ | apply TakeP.there) Try.sizeOf43 rfl hnv.one (by simp only [Nat.zero_add, List.set_cons_zero, List.set_cons_succ]; rfl)) rfl rfl (by kernel_rfl) (listed' := #[true, true, true, true, true, true, true, true, true, true, true, true]) ?_
            refine As.done (by kernel_rfl) ?_
            exact Ext.at_ (nv, u) ⟨hnv, hu⟩ ⟨rfl, trivial⟩ (Ent.take (by repeat' first | exact Takes.nil _ | exact TakeP.here _ | apply TakeP.there | apply Takes.cons))
          ·
            refine Ao.ef rfl (.lit1 ei43 rfl rfl rfl (by repeat' first | exact One.nil | apply One.cons rfl | (apply One.cons (Sl.one (by assumption))))) rfl rfl rfl (by kernel_rfl) (listed' := #[true, true, true, true, false, true, true, true, false, false, false, false]) ?_
            rintro lv _ ⟨hlv, rfl⟩
            refine As.one (i := 4) (by kernel_rfl) ?_
            refine Ao.st rfl (.loadP rfl (by repeat first | exact TakeP.here _ | apply TakeP.there) Try.isAgg43 rfl) rfl rfl rfl (by kernel_rfl) (listed' := #[true, true, true, true, true, true, true, true, false, false, false, false]) ?_
            refine As.one (i := 8) (by kernel_rfl) ?_
            refine Ao.ef rfl (.append (v := wv) rfl rfl (by repeat first | exact TakeP.here _ | apply TakeP.there) (Rd.vec (v := lv) (by repeat first | exact TakeP.here _ | apply TakeP.there)) ei43 (by omega) (by simp only [maxLen]; omega)) rfl rfl rfl (by kernel_rfl) (listed' := #[true, true, true, true, true, true, true, true, true, false, false, false]) ?_
            rintro nv _ ⟨hnv, rfl⟩
            refine As.take 9 rfl (by kernel_rfl) (by kernel_rfl) (by kernel_rfl) rfl rfl rfl (fun F hs => .nilCheck rfl) (by kernel_rfl) (listed' := #[true, true, true, true, true, true, true, true, true, true, false, false]) ?_
            refine As.take 10 rfl (by kernel_rfl) (by kernel_rfl) (by kernel_rfl) rfl rfl rfl (fun F hs => .fieldAddr rfl fa73_1) (by kernel_rfl) (listed' := #[true, true, true, true, true, true, true, true, true, true, true, false]) ?_
            refine As.one (i := 11) (by kernel_rfl) ?_
            refine Ao.ef10 rfl (.store rfl rfl (by repeat first | exact TakeP.here _ | apply TakeP.there) Try.sizeOf43 rfl hnv.one (by simp only [Nat.zero_add, List.set_cons_zero, List.set_cons_succ]; rfl)) rfl rfl (by kernel_rfl) (listed' := #[true, true, true, true, true, true, true, true, true, true, true, true]) ?_
            refine As.done (by kernel_rfl) ?_
            exact Ext.at_ (nv, u) ⟨hnv, hu⟩ ⟨rfl, trivial⟩ (Ent.take (by repeat' first | exact Takes.nil _ | exact TakeP.here _ | apply TakeP.there | apply Takes.cons))
      ·
        rintro ⟨nv, u⟩ ⟨hnv, hu⟩
        dsimp only
        refine Cod.seq ?_
        refine Cod.region ?_
        refine Ops.freeze (v := u) (by repeat' first | exact Takes.nil _ | exact TakeP.here _ | apply TakeP.there | apply Takes.cons) fun h1 hle hs1 => ?_
        have hb1 : Bods h1 (bvs ++ [u]) (L.wait ++ [bs]) := (hbs.mono hle).app (.cons hs1 .nil)
        rw [show L.wait.length + 1 = (L.wait ++ [bs]).length by simp]
        refine Ops.st (.assign rfl) rfl rfl rfl ?_
        refine Ops.nil ?_
        refine Ext.seq ?_
        exact Cod.ret (Ext.retE rfl rfl ((Ent.fold (by repeat' first | exact Takes.nil _ | exact TakeP.here _ | apply TakeP.there | apply Takes.cons) (link_mk (L := { L with wait := L.wait ++ [bs] }) hnv hb1 (ok.sent h1' (by omega)))).trans (Ent.swap _ _ _)) (⟨h1, hle, by rw [LkM.send, if_neg h1', if_neg (by omega)], by rw [LkM.send, if_neg h1', if_neg (by omega)]⟩))
end Go.Proofs.Ytjlimnckdblkhaa
