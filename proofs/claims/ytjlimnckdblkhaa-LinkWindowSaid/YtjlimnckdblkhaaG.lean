/- Tick: the packets of the next moment. No condition. -/
import Derived.Test.YtjlimnckdblkhaaF
import Derived.Test.YtjlimnckdblkhaaLJ
namespace Go.Proofs.Ytjlimnckdblkhaa
open Go

/-- A packet as the document has it. -/
structure PkM where
  k : Int
  fr : Int
  to : Int
  seq : Int
  ack : Int
  body : List UInt8
/-- Packets whose bodies stand in the ice, as rows. -/
inductive Pks (h : Hp) : List (List Value) → List PkM → Prop
  | nil : Pks h [] []
  | cons {v : Value} {p : PkM} {rows : List (List Value)} {ps : List PkM} (hb : SlR h v 1 p.body.length (u8s p.body)) (hr : Pks h rows ps) : Pks h (packC p.k p.fr p.to p.seq p.ack v :: rows) (p :: ps)
theorem Pks.len {h : Hp} {rows : List (List Value)} {ps : List PkM} (x : Pks h rows ps) : rows.length = ps.length := by induction x with | nil => rfl | cons _ _ ih => simp [ih]
theorem Pks.flat {h : Hp} {rows : List (List Value)} {ps : List PkM} (x : Pks h rows ps) : rows.flatten.length = ps.length * 6 := by
  induction x with
  | nil => rfl
  | cons _ _ ih => simp only [List.flatten_cons, List.length_append, List.length_cons, List.length_nil, ih, Nat.add_mul]; omega
theorem Pks.mono {h h' : Hp} {rows : List (List Value)} {ps : List PkM} (x : Pks h rows ps) (l : Hp.le h h') : Pks h' rows ps := by
  induction x with
  | nil => exact .nil
  | cons hb _ ih => exact .cons (hb.mono l) ih
theorem Pks.app {h : Hp} {rows rows' : List (List Value)} {ps ps' : List PkM} (x : Pks h rows ps) (y : Pks h rows' ps') : Pks h (rows ++ rows') (ps ++ ps') := by
  induction x with
  | nil => exact y
  | cons hb _ ih => exact .cons hb ih

/-- The bodies from one place on, as packets. -/
def LkM.datas (L : LkM) (i k : Nat) : List PkM := (List.range' i k).map fun (j : Nat) => ⟨3, L.e, L.p, L.f + j, L.nx - 1, L.wait.getD j []⟩
theorem LkM.datas_succ (L : LkM) (i k : Nat) {b : List UInt8} (h : L.wait[i + k]? = some b) : L.datas i (k + 1) = L.datas i k ++ [⟨3, L.e, L.p, L.f + (i + k : Nat), L.nx - 1, b⟩] := by
  simp [LkM.datas, List.range'_concat, h]
def LkM.t1 (L : LkM) : Int := if L.s > 0 then L.t + 1 else L.t
def LkM.s2 (L : LkM) : Int := if L.t1 = 3 then 0 else L.s
def LkM.t2 (L : LkM) : Int := if L.t1 = 3 then 0 else L.t1
def LkM.top (L : LkM) : Nat := min 4 L.wait.length
def LkM.tick (L : LkM) : List PkM × LkM :=
  if L.p = 0 then ([⟨1, L.e, L.p, 0, 0, []⟩], L)
  else (L.datas L.s2.toNat (L.top - L.s2.toNat), { L with s := max L.s2 L.top, t := L.t2 })

theorem LkM.Ok.t2 {L : LkM} (ok : L.Ok) : 0 ≤ L.t2 ∧ L.t2 ≤ 2 := by
  have h := ok.t
  have h1 : 0 ≤ L.t1 ∧ L.t1 ≤ 3 := by unfold LkM.t1; split <;> omega
  unfold LkM.t2
  split <;> omega
theorem LkM.tick_far (L : LkM) {a : Nat} (hp : ¬ L.p = 0) (ha : L.s2 = a) : L.tick = (L.datas a (L.top - a), { L with s := max (a : Int) (L.top : Int), t := L.t2 }) := by rw [LkM.tick, if_neg hp, ha, Int.toNat_natCast]
theorem LkM.Ok.ticked {L : LkM} (ok : L.Ok) {a : Nat} (ha : 0 ≤ (a : Int) ∧ (a : Int) ≤ 4 ∧ (a : Int) ≤ L.wait.length) (ht : 0 ≤ L.t2 ∧ L.t2 ≤ 2) : ({ L with s := max (a : Int) (L.top : Int), t := L.t2 } : LkM).Ok :=
  ⟨ok.e, ok.p, ok.f, by dsimp only [LkM.top]; omega, ok.nx, ht, ok.wait, ok.each⟩

theorem tick_any {F : Fr} {b : Nat} {h0 : Hp} {L : LkM} : Spec Try.prog F 16 [.pointer (some ⟨b, 0, none⟩)] [ice h0, link b h0 L]
    (fun v hs' => ∃ h1 rows, Hp.le h0 h1 ∧ Sl v ∧ Pks h1 rows L.tick.1 ∧ hs' = [ice h1, link b h1 L.tick.2, vec v 24 6 L.tick.1.length rows.flatten]) := by
  refine Spec.pre ?_ (Ent.swap _ _ _)
  refine Spec.open_ (link_open b h0 L) ?_
  rintro ⟨wv, bvs⟩ ⟨hwv, hbs, ok⟩
  dsimp only [lkI, List.cons_append, List.nil_append] at hwv hbs ⊢
  have hs := ok.s
  have ht := ok.t
  have hw := ok.wait
  have hf := ok.f
  have hnx := ok.nx
  refine Spec.body Try.func16 rfl Try.ntmps16 rfl ?_
  refine Cod.seq ?_
  refine Cod.region ?_
  refine Ops.st (.assign rfl) rfl rfl rfl ?_
  refine Ops.nil ?_
  refine Ext.seq ?_
  refine Cod.seq ?_
  refine Cod.seq ?_
  refine Cod.region ?_
  refine Ops.st (.move rfl) rfl rfl rfl ?_
  refine Ops.st (.nilCheck rfl) rfl rfl rfl ?_
  refine Ops.st (.fieldAddr rfl fa73_0) rfl rfl rfl ?_
  refine Ops.st (.fieldAddr rfl fa70_1) rfl rfl rfl ?_
  refine Ops.st (.loadP rfl (by repeat first | exact TakeP.here _ | apply TakeP.there) Try.isAgg3 rfl) rfl rfl rfl ?_
  refine Ops.st (.eql rfl rfl) rfl rfl rfl ?_
  refine Ops.nil ?_
  refine Ext.seq ?_
  refine Cod.condD rfl (fun hp => ?_) (fun hp => ?_)
  ·
    refine Cod.seq ?_
    refine Cod.region ?_
    refine Ops.st (.move rfl) rfl rfl rfl ?_
    refine Ops.st (.nilCheck rfl) rfl rfl rfl ?_
    refine Ops.st (.fieldAddr rfl fa73_0) rfl rfl rfl ?_
    refine Ops.st (.loadPA rfl (by repeat first | exact TakeP.here _ | apply TakeP.there) Try.isAgg70 Try.sizeOf70 rfl rfl) rfl rfl rfl ?_
    refine Ops.call ⟨Try.call33⟩ rfl rfl rfl (by repeat' first | exact Takes.nil _ | exact TakeP.here _ | apply TakeP.there | apply Takes.cons) (fun F' hF => bare_any (e := L.e) (p := L.p) (f := L.f) (s := L.s) (nx := L.nx) (t := L.t)) rfl rfl rfl ?_
    rintro _ _ ⟨rfl, rfl⟩
    refine Ops.ef (.lit (xs := [_, _, _, _, _, _]) ei40 rfl rfl rfl rfl (by repeat' first | exact allSz_nil | apply allSz_cons rfl) rfl (by repeat' first | exact One.nil | apply One.cons rfl | (apply One.cons (Sl.one (by assumption))))) rfl rfl rfl ?_
    rintro u _ ⟨hu, rfl⟩
    have hT : L.tick = ([⟨1, L.e, L.p, 0, 0, []⟩], L) := by rw [LkM.tick, if_pos hp]
    rw [hT]
    refine Ops.st (.assign rfl) rfl rfl rfl ?_
    refine Ops.nil ?_
    refine Ext.seq ?_
    exact Cod.ret (Ext.seqR (Ext.retE rfl rfl ((Ent.fold (A := link b h0 L) (by repeat' first | exact Takes.nil _ | exact TakeP.here _ | apply TakeP.there | apply Takes.cons) (link_mk hwv hbs ok)).trans (Ent.take (by repeat' first | exact Takes.nil _ | exact TakeP.here _ | apply TakeP.there | apply Takes.cons))) (⟨h0, [packC 1 L.e L.p 0 0 (.slice none 0 0)], Hp.le_refl _, hu, .cons (p := ⟨1, L.e, L.p, 0, 0, []⟩) (SlR.nil _ _) .nil, rfl⟩)))
  ·
    refine Cod.skip ?_
    refine Ext.seq ?_
    refine Cod.seq ?_
    refine Cod.cutK (fun _ : Unit => ⟨True, [(0, .pointer (some ⟨b, 0, none⟩))], [pt b 73 (lkC L.e L.p L.f L.s L.nx L.t1 wv), vec wv 22 1 L.wait.length bvs, ice h0]⟩) ?_ ?_
    ·
      refine Cod.seq ?_
      refine Cod.region ?_
      refine Ops.st (.move rfl) rfl rfl rfl ?_
      refine Ops.st (.nilCheck rfl) rfl rfl rfl ?_
      refine Ops.st (.fieldAddr rfl fa73_0) rfl rfl rfl ?_
      refine Ops.st (.fieldAddr rfl fa70_3) rfl rfl rfl ?_
      refine Ops.st (.loadP rfl (by repeat first | exact TakeP.here _ | apply TakeP.there) Try.isAgg3 rfl) rfl rfl rfl ?_
      refine Ops.st (.gtr rfl rfl) rfl rfl rfl ?_
      refine Ops.nil ?_
      refine Ext.seq ?_
      refine Cod.condD rfl (fun h1 => ?_) (fun h1 => ?_)
      ·
        refine Cod.region ?_
        refine Ops.st (.move rfl) rfl rfl rfl ?_
        refine Ops.st (.nilCheck rfl) rfl rfl rfl ?_
        refine Ops.st (.fieldAddr rfl fa73_0) rfl rfl rfl ?_
        refine Ops.st (.fieldAddr rfl fa70_5) rfl rfl rfl ?_
        refine Ops.st (.loadP rfl (by repeat first | exact TakeP.here _ | apply TakeP.there) Try.isAgg3 rfl) rfl rfl rfl ?_
        refine Ops.st (.add rfl rfl (by first | exact IntWalk.i64_in _ (by omega) | rfl)) rfl rfl rfl ?_
        refine Ops.st (.nilCheck rfl) rfl rfl rfl ?_
        refine Ops.st (.fieldAddr rfl fa73_0) rfl rfl rfl ?_
        refine Ops.st (.fieldAddr rfl fa70_5) rfl rfl rfl ?_
        refine Ops.ef10 (.store rfl rfl (by repeat first | exact TakeP.here _ | apply TakeP.there) Try.sizeOf3 rfl rfl (by simp only [Nat.zero_add, List.set_cons_zero, List.set_cons_succ]; rfl)) rfl rfl ?_
        refine Ops.nil ?_
        exact Ext.at_ () trivial ⟨rfl, trivial⟩ (by rw [LkM.t1, if_pos h1]; exact Ent.take (by repeat' first | exact Takes.nil _ | exact TakeP.here _ | apply TakeP.there | apply Takes.cons))
      ·
        refine Cod.skip ?_
        exact Ext.at_ () trivial ⟨rfl, trivial⟩ (by rw [LkM.t1, if_neg h1]; exact Ent.take (by repeat' first | exact Takes.nil _ | exact TakeP.here _ | apply TakeP.there | apply Takes.cons))
    ·
      rintro _ _
      dsimp only
      refine Cod.seq ?_
      refine Cod.cutK (fun _ : Unit => ⟨True, [(0, .pointer (some ⟨b, 0, none⟩))], [pt b 73 (lkC L.e L.p L.f L.s2 L.nx L.t2 wv), vec wv 22 1 L.wait.length bvs, ice h0]⟩) ?_ ?_
      ·
        refine Cod.seq ?_
        refine Cod.region ?_
        have ht1 : 0 ≤ L.t1 ∧ L.t1 ≤ 3 := by unfold LkM.t1; split <;> omega
        refine Ops.st (.move rfl) rfl rfl rfl ?_
        refine Ops.st (.nilCheck rfl) rfl rfl rfl ?_
        refine Ops.st (.fieldAddr rfl fa73_0) rfl rfl rfl ?_
        refine Ops.st (.fieldAddr rfl fa70_5) rfl rfl rfl ?_
        refine Ops.st (.loadP rfl (by repeat first | exact TakeP.here _ | apply TakeP.there) Try.isAgg3 rfl) rfl rfl rfl ?_
        refine Ops.st (.eql rfl rfl) rfl rfl rfl ?_
        refine Ops.nil ?_
        refine Ext.seq ?_
        refine Cod.condD rfl (fun h2 => ?_) (fun h2 => ?_)
        ·
          refine Cod.region ?_
          refine Ops.st (.move rfl) rfl rfl rfl ?_
          refine Ops.st (.move rfl) rfl rfl rfl ?_
          refine Ops.st (.nilCheck rfl) rfl rfl rfl ?_
          refine Ops.st (.fieldAddr rfl fa73_0) rfl rfl rfl ?_
          refine Ops.st (.fieldAddr rfl fa70_5) rfl rfl rfl ?_
          refine Ops.ef10 (.store rfl rfl (by repeat first | exact TakeP.here _ | apply TakeP.there) Try.sizeOf3 rfl rfl (by simp only [Nat.zero_add, List.set_cons_zero, List.set_cons_succ]; rfl)) rfl rfl ?_
          refine Ops.st (.nilCheck rfl) rfl rfl rfl ?_
          refine Ops.st (.fieldAddr rfl fa73_0) rfl rfl rfl ?_
          refine Ops.st (.fieldAddr rfl fa70_3) rfl rfl rfl ?_
          refine Ops.ef10 (.store rfl rfl (by repeat first | exact TakeP.here _ | apply TakeP.there) Try.sizeOf3 rfl rfl (by simp only [Nat.zero_add, List.set_cons_zero, List.set_cons_succ]; rfl)) rfl rfl ?_
          refine Ops.nil ?_
          exact Ext.at_ () trivial ⟨rfl, trivial⟩ (by rw [LkM.s2, LkM.t2, if_pos h2, if_pos h2]; exact Ent.take (by repeat' first | exact Takes.nil _ | exact TakeP.here _ | apply TakeP.there | apply Takes.cons))
        ·
          refine Cod.skip ?_
          exact Ext.at_ () trivial ⟨rfl, trivial⟩ (by rw [LkM.s2, LkM.t2, if_neg h2, if_neg h2]; exact Ent.take (by repeat' first | exact Takes.nil _ | exact TakeP.here _ | apply TakeP.there | apply Takes.cons))
      ·
        rintro _ _
        dsimp only
        refine Cod.seq ?_
        refine Cod.region ?_
        have hs2 : 0 ≤ L.s2 ∧ L.s2 ≤ 4 ∧ L.s2 ≤ L.wait.length := by unfold LkM.s2; split <;> omega
        have ht2 := ok.t2
        obtain ⟨a, ha⟩ : ∃ a : Nat, L.s2 = a := ⟨L.s2.toNat, by omega⟩
        have hT := L.tick_far hp ha
        rw [ha]
        rw [ha] at hs2
        have htop : L.top = min 4 L.wait.length := rfl
        refine Ops.st (.assign rfl) rfl rfl rfl ?_
        refine Ops.nil ?_
        refine Ext.seq ?_
        refine Cod.seq ?_
        refine Cod.block ?_
        refine Cod.loop (fun g : Nat × Hp × Value × List (List Value) => ⟨g.1 ≤ L.top - a ∧ Hp.le h0 g.2.1 ∧ Sl g.2.2.1 ∧ Pks g.2.1 g.2.2.2 (L.datas a g.1), [(0, .pointer (some ⟨b, 0, none⟩)), (3, g.2.2.1)], [pt b 73 (lkC L.e L.p L.f ((a + g.1 : Nat) : Int) L.nx L.t2 wv), vec wv 22 1 L.wait.length bvs, vec g.2.2.1 24 6 g.1 g.2.2.2.flatten, ice g.2.1]⟩) (fun g => L.top - a - g.1) (0, h0, .slice none 0 0, []) ⟨Nat.zero_le _, Hp.le_refl _, Sl.nil, .nil⟩ ⟨rfl, rfl, trivial⟩ ((Ent.vecNil (T := 24) (sz := 6)).trans (Ent.take (by repeat' first | exact Takes.nil _ | exact TakeP.here _ | apply TakeP.there | apply Takes.cons))) ?_
        rintro ⟨k, hc, uv, rows⟩ ⟨hk, hle, huv, hpk⟩
        dsimp only
        refine Cod.seq ?_
        refine Cod.seq ?_
        dsimp only at hk hle huv hpk
        refine Cod.regionQ mixed (by kernel_rfl) ?_
        refine Qs.st (.move rfl) rfl rfl rfl ?_
        refine Qs.st (.nilCheck rfl) rfl rfl rfl ?_
        refine Qs.st (.fieldAddr rfl fa73_0) rfl rfl rfl ?_
        refine Qs.st (.fieldAddr rfl fa70_3) rfl rfl rfl ?_
        refine Qs.st (.loadP rfl (by repeat first | exact TakeP.here _ | apply TakeP.there) Try.isAgg3 rfl) rfl rfl rfl ?_
        refine Qs.st (.move rfl) rfl rfl rfl ?_
        refine Qs.st (.nilCheck rfl) rfl rfl rfl ?_
        refine Qs.st (.fieldAddr rfl fa73_1) rfl rfl rfl ?_
        refine Qs.st (.loadP rfl (by repeat first | exact TakeP.here _ | apply TakeP.there) Try.isAgg43 rfl) rfl rfl rfl ?_
        refine Qs.st (.len rfl (Rd.vec (v := wv) (by repeat first | exact TakeP.here _ | apply TakeP.there)) Try.runUnderlying43) rfl rfl rfl ?_
        refine Qs.st (.min_ rfl rfl) rfl rfl rfl ?_
        refine Qs.st (.lss rfl rfl) rfl rfl rfl ?_
        refine Qs.nil ?_
        refine Ext.seq ?_
        refine Cod.condD rfl (fun h3 => ?_) (fun h3 => ?_)
        ·
          refine Cod.skip ?_
          refine Ext.seq ?_
          refine Cod.seq ?_
          refine Cod.block ?_
          obtain ⟨body, hbody⟩ : ∃ c, L.wait[a + k]? = some c := ⟨L.wait[a + k]'(by omega), List.getElem?_eq_getElem (by omega)⟩
          obtain ⟨bv, hbv, hsb⟩ := (hbs.mono hle).get hbody
          have hbl := ok.each body (List.mem_of_getElem? hbody)
          have hrl : rows.length = k := by rw [hpk.len]; simp [LkM.datas]
          refine Cod.regionA mixed (by kernel_rfl) (listed := #[false, false, false, false, false, false, false, false, false, false, false, false, false, false, false, false, false, false, false, false, false, false, false, false, false, false, false, false, false, false, false]) ?_
          refine As.take 0 rfl (by kernel_rfl) (by kernel_rfl) (by kernel_rfl) rfl rfl rfl (fun F hs => .move rfl) (by kernel_rfl) (listed' := #[true, false, false, false, false, false, false, false, false, false, false, false, false, false, false, false, false, false, false, false, false, false, false, false, false, false, false, false, false, false, false]) ?_
          refine As.take 1 rfl (by kernel_rfl) (by kernel_rfl) (by kernel_rfl) rfl rfl rfl (fun F hs => .move rfl) (by kernel_rfl) (listed' := #[true, true, false, false, false, false, false, false, false, false, false, false, false, false, false, false, false, false, false, false, false, false, false, false, false, false, false, false, false, false, false]) ?_
          refine As.take 2 rfl (by kernel_rfl) (by kernel_rfl) (by kernel_rfl) rfl rfl rfl (fun F hs => .nilCheck rfl) (by kernel_rfl) (listed' := #[true, true, true, false, false, false, false, false, false, false, false, false, false, false, false, false, false, false, false, false, false, false, false, false, false, false, false, false, false, false, false]) ?_
          refine As.take 3 rfl (by kernel_rfl) (by kernel_rfl) (by kernel_rfl) rfl rfl rfl (fun F hs => .fieldAddr rfl fa73_0) (by kernel_rfl) (listed' := #[true, true, true, true, false, false, false, false, false, false, false, false, false, false, false, false, false, false, false, false, false, false, false, false, false, false, false, false, false, false, false]) ?_
          refine As.take 5 rfl (by kernel_rfl) (by kernel_rfl) (by kernel_rfl) rfl rfl rfl (fun F hs => .move rfl) (by kernel_rfl) (listed' := #[true, true, true, true, false, true, false, false, false, false, false, false, false, false, false, false, false, false, false, false, false, false, false, false, false, false, false, false, false, false, false]) ?_
          refine As.take 6 rfl (by kernel_rfl) (by kernel_rfl) (by kernel_rfl) rfl rfl rfl (fun F hs => .nilCheck rfl) (by kernel_rfl) (listed' := #[true, true, true, true, false, true, true, false, false, false, false, false, false, false, false, false, false, false, false, false, false, false, false, false, false, false, false, false, false, false, false]) ?_
          refine As.take 7 rfl (by kernel_rfl) (by kernel_rfl) (by kernel_rfl) rfl rfl rfl (fun F hs => .fieldAddr rfl fa73_0) (by kernel_rfl) (listed' := #[true, true, true, true, false, true, true, true, false, false, false, false, false, false, false, false, false, false, false, false, false, false, false, false, false, false, false, false, false, false, false]) ?_
          refine As.take 8 rfl (by kernel_rfl) (by kernel_rfl) (by kernel_rfl) rfl rfl rfl (fun F hs => .fieldAddr rfl fa70_2) (by kernel_rfl) (listed' := #[true, true, true, true, false, true, true, true, true, false, false, false, false, false, false, false, false, false, false, false, false, false, false, false, false, false, false, false, false, false, false]) ?_
          refine As.take 10 rfl (by kernel_rfl) (by kernel_rfl) (by kernel_rfl) rfl rfl rfl (fun F hs => .move rfl) (by kernel_rfl) (listed' := #[true, true, true, true, false, true, true, true, true, false, true, false, false, false, false, false, false, false, false, false, false, false, false, false, false, false, false, false, false, false, false]) ?_
          refine As.take 11 rfl (by kernel_rfl) (by kernel_rfl) (by kernel_rfl) rfl rfl rfl (fun F hs => .nilCheck rfl) (by kernel_rfl) (listed' := #[true, true, true, true, false, true, true, true, true, false, true, true, false, false, false, false, false, false, false, false, false, false, false, false, false, false, false, false, false, false, false]) ?_
          refine As.take 12 rfl (by kernel_rfl) (by kernel_rfl) (by kernel_rfl) rfl rfl rfl (fun F hs => .fieldAddr rfl fa73_0) (by kernel_rfl) (listed' := #[true, true, true, true, false, true, true, true, true, false, true, true, true, false, false, false, false, false, false, false, false, false, false, false, false, false, false, false, false, false, false]) ?_
          refine As.take 13 rfl (by kernel_rfl) (by kernel_rfl) (by kernel_rfl) rfl rfl rfl (fun F hs => .fieldAddr rfl fa70_3) (by kernel_rfl) (listed' := #[true, true, true, true, false, true, true, true, true, false, true, true, true, true, false, false, false, false, false, false, false, false, false, false, false, false, false, false, false, false, false]) ?_
          refine As.take 16 rfl (by kernel_rfl) (by kernel_rfl) (by kernel_rfl) rfl rfl rfl (fun F hs => .move rfl) (by kernel_rfl) (listed' := #[true, true, true, true, false, true, true, true, true, false, true, true, true, true, false, false, true, false, false, false, false, false, false, false, false, false, false, false, false, false, false]) ?_
          refine As.take 17 rfl (by kernel_rfl) (by kernel_rfl) (by kernel_rfl) rfl rfl rfl (fun F hs => .nilCheck rfl) (by kernel_rfl) (listed' := #[true, true, true, true, false, true, true, true, true, false, true, true, true, true, false, false, true, true, false, false, false, false, false, false, false, false, false, false, false, false, false]) ?_
          refine As.take 18 rfl (by kernel_rfl) (by kernel_rfl) (by kernel_rfl) rfl rfl rfl (fun F hs => .fieldAddr rfl fa73_1) (by kernel_rfl) (listed' := #[true, true, true, true, false, true, true, true, true, false, true, true, true, true, false, false, true, true, true, false, false, false, false, false, false, false, false, false, false, false, false]) ?_
          refine As.take 20 rfl (by kernel_rfl) (by kernel_rfl) (by kernel_rfl) rfl rfl rfl (fun F hs => .move rfl) (by kernel_rfl) (listed' := #[true, true, true, true, false, true, true, true, true, false, true, true, true, true, false, false, true, true, true, false, true, false, false, false, false, false, false, false, false, false, false]) ?_
          refine As.take 21 rfl (by kernel_rfl) (by kernel_rfl) (by kernel_rfl) rfl rfl rfl (fun F hs => .nilCheck rfl) (by kernel_rfl) (listed' := #[true, true, true, true, false, true, true, true, true, false, true, true, true, true, false, false, true, true, true, false, true, true, false, false, false, false, false, false, false, false, false]) ?_
          refine As.take 22 rfl (by kernel_rfl) (by kernel_rfl) (by kernel_rfl) rfl rfl rfl (fun F hs => .fieldAddr rfl fa73_0) (by kernel_rfl) (listed' := #[true, true, true, true, false, true, true, true, true, false, true, true, true, true, false, false, true, true, true, false, true, true, true, false, false, false, false, false, false, false, false]) ?_
          refine As.take 23 rfl (by kernel_rfl) (by kernel_rfl) (by kernel_rfl) rfl rfl rfl (fun F hs => .fieldAddr rfl fa70_3) (by kernel_rfl) (listed' := #[true, true, true, true, false, true, true, true, true, false, true, true, true, true, false, false, true, true, true, false, true, true, true, true, false, false, false, false, false, false, false]) ?_
          refine As.quiet [4, 9, 14, 15, 19, 24, 25, 26] 8 4 rfl ?_
          refine Aq.st (i := 4) ⟨rfl, by kernel_rfl, by kernel_rfl, by kernel_rfl, by kernel_rfl, by kernel_rfl⟩ (.loadPA rfl (by repeat first | exact TakeP.here _ | apply TakeP.there) Try.isAgg70 Try.sizeOf70 rfl rfl) rfl rfl rfl (by kernel_rfl) (listed' := #[true, true, true, true, true, true, true, true, true, false, true, true, true, true, false, false, true, true, true, false, true, true, true, true, false, false, false, false, false, false, false]) ?_
          refine Aq.st (i := 9) ⟨rfl, by kernel_rfl, by kernel_rfl, by kernel_rfl, by kernel_rfl, by kernel_rfl⟩ (.loadP rfl (by repeat first | exact TakeP.here _ | apply TakeP.there) Try.isAgg3 rfl) rfl rfl rfl (by kernel_rfl) (listed' := #[true, true, true, true, true, true, true, true, true, true, true, true, true, true, false, false, true, true, true, false, true, true, true, true, false, false, false, false, false, false, false]) ?_
          refine Aq.st (i := 14) ⟨rfl, by kernel_rfl, by kernel_rfl, by kernel_rfl, by kernel_rfl, by kernel_rfl⟩ (.loadP rfl (by repeat first | exact TakeP.here _ | apply TakeP.there) Try.isAgg3 rfl) rfl rfl rfl (by kernel_rfl) (listed' := #[true, true, true, true, true, true, true, true, true, true, true, true, true, true, true, false, true, true, true, false, true, true, true, true, false, false, false, false, false, false, false]) ?_
          refine Aq.st (i := 15) ⟨rfl, by kernel_rfl, by kernel_rfl, by kernel_rfl, by kernel_rfl, by kernel_rfl⟩ (.add rfl rfl (by first | exact IntWalk.i64_in _ (by omega) | rfl)) rfl rfl rfl (by kernel_rfl) (listed' := #[true, true, true, true, true, true, true, true, true, true, true, true, true, true, true, true, true, true, true, false, true, true, true, true, false, false, false, false, false, false, false]) ?_
          refine Aq.st (i := 19) ⟨rfl, by kernel_rfl, by kernel_rfl, by kernel_rfl, by kernel_rfl, by kernel_rfl⟩ (.loadP rfl (by repeat first | exact TakeP.here _ | apply TakeP.there) Try.isAgg43 rfl) rfl rfl rfl (by kernel_rfl) (listed' := #[true, true, true, true, true, true, true, true, true, true, true, true, true, true, true, true, true, true, true, true, true, true, true, true, false, false, false, false, false, false, false]) ?_
          refine Aq.st (i := 24) ⟨rfl, by kernel_rfl, by kernel_rfl, by kernel_rfl, by kernel_rfl, by kernel_rfl⟩ (.loadP rfl (by repeat first | exact TakeP.here _ | apply TakeP.there) Try.isAgg3 rfl) rfl rfl rfl (by kernel_rfl) (listed' := #[true, true, true, true, true, true, true, true, true, true, true, true, true, true, true, true, true, true, true, true, true, true, true, true, true, false, false, false, false, false, false]) ?_
          refine Aq.st (i := 25) ⟨rfl, by kernel_rfl, by kernel_rfl, by kernel_rfl, by kernel_rfl, by kernel_rfl⟩ (.indexAddr (j := a + k) rfl rfl (Rd.vec (v := wv) (by repeat first | exact TakeP.here _ | apply TakeP.there)) Try.runUnderlying43 Try.sizeOf22 rfl (by omega) rfl) rfl rfl rfl (by kernel_rfl) (listed' := #[true, true, true, true, true, true, true, true, true, true, true, true, true, true, true, true, true, true, true, true, true, true, true, true, true, true, false, false, false, false, false]) ?_
          refine Aq.st (i := 26) ⟨rfl, by kernel_rfl, by kernel_rfl, by kernel_rfl, by kernel_rfl, by kernel_rfl⟩ (.load_elem rfl (Rd.vec (v := wv) (by repeat first | exact TakeP.here _ | apply TakeP.there)) Try.isAgg22 (by rw [Nat.mul_one]; exact hbv)) rfl rfl rfl (by kernel_rfl) (listed' := #[true, true, true, true, true, true, true, true, true, true, true, true, true, true, true, true, true, true, true, true, true, true, true, true, true, true, true, false, false, false, false]) ?_
          refine Aq.done (by kernel_rfl) ?_
          refine As.one (i := 27) (by kernel_rfl) ?_
          refine Ao.call rfl ⟨Try.call34⟩ rfl rfl rfl (by repeat' first | exact Takes.nil _ | exact TakeP.here _ | apply TakeP.there | apply Takes.cons) (fun F' hF => data_any (e := L.e) (p := L.p) (f := L.f) (s := ((a + k : Nat) : Int)) (nx := L.nx) (t := L.t2) (seq := L.f + ((a + k : Nat) : Int)) ((Rd.ice (by repeat first | exact TakeP.here _ | apply TakeP.there) hsb).wider hF) (by omega) hnx) rfl rfl rfl (by kernel_rfl) (listed' := #[true, true, true, true, true, true, true, true, true, true, true, true, true, true, true, true, true, true, true, true, true, true, true, true, true, true, true, true, false, false, false]) ?_
          rintro _ _ ⟨u, rfl, hu, rfl⟩
          refine As.one (i := 28) (by kernel_rfl) ?_
          refine Ao.ef rfl (.lit (xs := [_, _, _, _, _, _]) ei40 rfl rfl rfl rfl (by repeat' first | exact allSz_nil | apply allSz_cons rfl) rfl (by repeat' first | exact One.nil | apply One.cons rfl | (apply One.cons (Sl.one (by assumption))))) rfl rfl rfl (by kernel_rfl) (listed' := #[true, true, true, true, true, true, true, true, true, true, true, true, true, true, true, true, true, true, true, true, true, true, true, true, true, true, true, true, true, false, false]) ?_
          rintro lv _ ⟨hlv, rfl⟩
          refine As.one (i := 29) (by kernel_rfl) ?_
          refine Ao.ef rfl (.append (v := uv) rfl rfl (by repeat first | exact TakeP.here _ | apply TakeP.there) (Rd.vec (v := lv) (by repeat first | exact TakeP.here _ | apply TakeP.there)) ei40 (by omega) (by simp only [maxLen]; omega)) rfl rfl rfl (by kernel_rfl) (listed' := #[true, true, true, true, true, true, true, true, true, true, true, true, true, true, true, true, true, true, true, true, true, true, true, true, true, true, true, true, true, true, false]) ?_
          rintro nv _ ⟨hnv, rfl⟩
          refine As.take 30 rfl (by kernel_rfl) (by kernel_rfl) (by kernel_rfl) rfl rfl rfl (fun F hs => .assign rfl) (by kernel_rfl) (listed' := #[true, true, true, true, true, true, true, true, true, true, true, true, true, true, true, true, true, true, true, true, true, true, true, true, true, true, true, true, true, true, true]) ?_
          refine As.done (by kernel_rfl) ?_
          refine Ext.block ?_
          refine Ext.seq ?_
          refine Cod.region ?_
          refine Ops.freeze (v := u) (by repeat' first | exact Takes.nil _ | exact TakeP.here _ | apply TakeP.there | apply Takes.cons) fun hd hle2 hs2 => ?_
          have hpk2 : Pks hd (rows ++ [packC 3 L.e L.p (L.f + ((a + k : Nat) : Int)) (L.nx - 1) u]) (L.datas a (k + 1)) := by rw [L.datas_succ a k hbody]; exact (hpk.mono hle2).app (.cons (p := ⟨3, L.e, L.p, L.f + ((a + k : Nat) : Int), L.nx - 1, body⟩) hs2 .nil)
          refine Ops.st (.move rfl) rfl rfl rfl ?_
          refine Ops.st (.nilCheck rfl) rfl rfl rfl ?_
          refine Ops.st (.fieldAddr rfl fa73_0) rfl rfl rfl ?_
          refine Ops.st (.fieldAddr rfl fa70_3) rfl rfl rfl ?_
          refine Ops.st (.loadP rfl (by repeat first | exact TakeP.here _ | apply TakeP.there) Try.isAgg3 rfl) rfl rfl rfl ?_
          refine Ops.st (.add rfl rfl (by first | exact IntWalk.i64_in _ (by omega) | rfl)) rfl rfl rfl ?_
          refine Ops.st (.nilCheck rfl) rfl rfl rfl ?_
          refine Ops.st (.fieldAddr rfl fa73_0) rfl rfl rfl ?_
          refine Ops.st (.fieldAddr rfl fa70_3) rfl rfl rfl ?_
          refine Ops.ef10 (.store rfl rfl (by repeat first | exact TakeP.here _ | apply TakeP.there) Try.sizeOf3 rfl rfl (by simp only [Nat.zero_add, List.set_cons_zero, List.set_cons_succ]; rfl)) rfl rfl ?_
          refine Ops.nil ?_
          exact Ext.back (k + 1, hd, nv, rows ++ [packC 3 L.e L.p (L.f + ((a + k : Nat) : Int)) (L.nx - 1) u]) (by dsimp only; omega) ⟨by dsimp only; omega, Hp.le_trans hle hle2, hnv, hpk2⟩ ⟨rfl, rfl, trivial⟩ (by dsimp only; rw [show (rows ++ [packC 3 L.e L.p (L.f + ((a + k : Nat) : Int)) (L.nx - 1) u]).flatten = rows.flatten ++ packC 3 L.e L.p (L.f + ((a + k : Nat) : Int)) (L.nx - 1) u from by simp, show ((a + (k + 1) : Nat) : Int) = ((a + k : Nat) : Int) + 1 from by omega]; exact Ent.take (by repeat' first | exact Takes.nil _ | exact TakeP.here _ | apply TakeP.there | apply Takes.cons))
        ·
          refine Cod.exit (Ext.seqX (Ext.stopX (Ext.hit ?_)))
          refine Ext.seq ?_
          refine Cod.seq ?_
          refine Cod.region ?_
          have hkt : k = L.top - a := by omega
          have hmx : ((a + k : Nat) : Int) = max (a : Int) (L.top : Int) := by omega
          have hdl : (L.datas a (L.top - a)).length = k := by simp [LkM.datas, hkt]
          rw [hmx]
          refine Ops.st (.move rfl) rfl rfl rfl ?_
          refine Ops.st (.assign rfl) rfl rfl rfl ?_
          refine Ops.nil ?_
          refine Ext.seq ?_
          exact Cod.ret (Ext.retE rfl rfl ((Ent.fold (A := link b hc { L with s := max (a : Int) (L.top : Int), t := L.t2 }) (by repeat' first | exact Takes.nil _ | exact TakeP.here _ | apply TakeP.there | apply Takes.cons) (link_mk (L := { L with s := max (a : Int) (L.top : Int), t := L.t2 }) hwv (hbs.mono hle) (ok.ticked hs2 ht2))).trans (Ent.take (ps := [ice hc, link b hc { L with s := max (a : Int) (L.top : Int), t := L.t2 }, vec uv 24 6 k rows.flatten]) (by repeat' first | exact Takes.nil _ | exact TakeP.here _ | apply TakeP.there | apply Takes.cons))) (⟨hc, rows, hle, huv, by rw [hT, ← hkt]; exact hpk, by rw [hT, hdl]⟩))
end Go.Proofs.Ytjlimnckdblkhaa
