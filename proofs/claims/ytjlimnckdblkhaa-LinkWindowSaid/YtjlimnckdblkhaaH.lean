/- Take: what a packet does. No condition. -/
import Derived.Test.YtjlimnckdblkhaaG
namespace Go.Proofs.Ytjlimnckdblkhaa
open Go

def LkM.meets (L : LkM) (ep : Int) : LkM := if ep > L.p then { L with p := ep, f := 1, s := 0, nx := 1, t := 0 } else L
/-- What a packet brings, what is answered, what the link is then. -/
def LkM.take (L : LkM) (p : PkM) : List (List UInt8) × List PkM × LkM :=
  if rightB p.k p.fr p.to p.seq p.ack p.body.length = false ∨ p.fr < L.p then ([], [], L)
  else if p.k = 1 then ([], [⟨2, (L.meets p.fr).e, (L.meets p.fr).p, 0, 0, []⟩], L.meets p.fr)
  else if p.k = 2 then ([], [], if p.to = L.e then L.meets p.fr else L)
  else if p.to ≠ L.e ∨ p.fr > L.p then ([], [⟨1, L.e, L.p, 0, 0, []⟩], L)
  else if p.seq = 0 then ([], [], L.gone p.ack)
  else if p.seq = (L.gone p.ack).nx then ([p.body], [⟨3, (L.gone p.ack).e, (L.gone p.ack).p, 0, (L.gone p.ack).nx + 1 - 1, []⟩], { L.gone p.ack with nx := (L.gone p.ack).nx + 1 })
  else ([], [⟨3, (L.gone p.ack).e, (L.gone p.ack).p, 0, (L.gone p.ack).nx - 1, []⟩], L.gone p.ack)
theorem LkM.Ok.meets {L : LkM} (ok : L.Ok) {ep : Int} (h : 1 ≤ ep ∧ ep ≤ 1073741824) : (L.meets ep).Ok := by
  unfold LkM.meets
  split
  · exact ⟨ok.e, by dsimp only; omega, by dsimp only; omega, by dsimp only; omega, by dsimp only; omega, by dsimp only; omega, ok.wait, ok.each⟩
  · exact ok
theorem meetsL_any {F : Fr} {b : Nat} {h0 : Hp} {L : LkM} {ep : Int} (h : 1 ≤ ep ∧ ep ≤ 1073741824) : Spec Try.prog F 37 [.pointer (some ⟨b, 0, none⟩), .int .i64 ep] [link b h0 L] (fun _ hs' => hs' = [link b h0 (L.meets ep)]) := by
  refine Spec.open_ (link_open b h0 L) ?_
  rintro ⟨wv, bvs⟩ ⟨hwv, hbs, ok⟩
  dsimp only [lkI, List.cons_append, List.nil_append] at hwv hbs ⊢
  have hok := ok.meets h
  refine Spec.body Try.func37 rfl Try.ntmps37 rfl ?_
  refine Cod.seq ?_
  refine Cod.region ?_
  refine Ops.st (.move rfl) rfl rfl rfl ?_
  refine Ops.st (.move rfl) rfl rfl rfl ?_
  refine Ops.st (.nilCheck rfl) rfl rfl rfl ?_
  refine Ops.st (.fieldAddr rfl fa73_0) rfl rfl rfl ?_
  refine Ops.st (.fieldAddr rfl fa70_1) rfl rfl rfl ?_
  refine Ops.st (.loadP rfl (by repeat first | exact TakeP.here _ | apply TakeP.there) Try.isAgg3 rfl) rfl rfl rfl ?_
  refine Ops.st (.gtr rfl rfl) rfl rfl rfl ?_
  refine Ops.nil ?_
  refine Ext.seq ?_
  refine Cod.condD rfl (fun h1 => ?_) (fun h1 => ?_)
  ·
    refine Cod.region ?_
    have hM : L.meets ep = { L with p := ep, f := 1, s := 0, nx := 1, t := 0 } := by rw [LkM.meets, if_pos h1]
    rw [hM] at hok ⊢
    refine Ops.st (.move rfl) rfl rfl rfl ?_
    refine Ops.st (.move rfl) rfl rfl rfl ?_
    refine Ops.st (.nilCheck rfl) rfl rfl rfl ?_
    refine Ops.st (.fieldAddr rfl fa73_0) rfl rfl rfl ?_
    refine Ops.st (.fieldAddr rfl fa70_0) rfl rfl rfl ?_
    refine Ops.st (.loadP rfl (by repeat first | exact TakeP.here _ | apply TakeP.there) Try.isAgg3 rfl) rfl rfl rfl ?_
    refine Ops.st (.move rfl) rfl rfl rfl ?_
    refine Ops.call ⟨Try.call29⟩ rfl rfl rfl (by repeat' first | exact Takes.nil _ | exact TakeP.here _ | apply TakeP.there | apply Takes.cons) (fun F' hF => begun_any) rfl rfl rfl ?_
    rintro _ _ ⟨rfl, rfl⟩
    refine Ops.st (.nilCheck rfl) rfl rfl rfl ?_
    refine Ops.st (.fieldAddr rfl fa73_0) rfl rfl rfl ?_
    refine Ops.ef10 (.storeA rfl rfl (by repeat first | exact TakeP.here _ | apply TakeP.there) Try.sizeOf70 rfl (by first | decide | simp) (by first | decide | exact (by repeat' first | exact One.nil | apply One.cons rfl | (apply One.cons (Sl.one (by assumption))))) rfl) rfl rfl ?_
    refine Ops.nil ?_
    exact Ext.ret0EN rfl (Ent.fold1 (A := link b h0 { L with p := ep, f := 1, s := 0, nx := 1, t := 0 }) (by repeat' first | exact Takes.nil _ | exact TakeP.here _ | apply TakeP.there | apply Takes.cons) (link_mk (L := { L with p := ep, f := 1, s := 0, nx := 1, t := 0 }) hwv hbs hok)) (rfl)
  ·
    refine Cod.skip ?_
    have hM : L.meets ep = L := by rw [LkM.meets, if_neg h1]
    rw [hM]
    exact Ext.ret0EN rfl (Ent.fold (by repeat' first | exact Takes.nil _ | exact TakeP.here _ | apply TakeP.there | apply Takes.cons) (link_mk hwv hbs ok)) (rfl)

theorem rightB_bounds {k fr to seq ack : Int} {n : Nat} (h : rightB k fr to seq ack n = true) : (1 ≤ k ∧ k ≤ 3) ∧ (1 ≤ fr ∧ fr ≤ 1073741824) ∧ (0 ≤ to ∧ to ≤ 1073741824) ∧ (0 ≤ seq ∧ seq ≤ 1073741824) ∧ (0 ≤ ack ∧ ack ≤ 1073741824) ∧ n ≤ 1500 := by
  by_cases hb : k < 1 ∨ k > 3 ∨ fr < 1 ∨ fr > 1073741824 ∨ to < 0 ∨ to > 1073741824 ∨ seq < 0 ∨ seq > 1073741824 ∨ ack < 0 ∨ ack > 1073741824 ∨ n > 1500
  · rw [rightB_bad hb] at h; cases h
  · omega
theorem gone_nx (L : LkM) (ack : Int) : (L.gone ack).nx = L.nx ∧ (L.gone ack).e = L.e ∧ (L.gone ack).p = L.p := by unfold LkM.gone; split <;> simp

theorem take_any {F : Fr} {b : Nat} {h0 : Hp} {L : LkM} {k fr to seq ack : Int} {body : List UInt8} {bv : Value} (hr : Ro F h0 bv 1 body.length (u8s body)) :
    Spec Try.prog F 20 [.pointer (some ⟨b, 0, none⟩), .agg (packC k fr to seq ack bv).toArray] [ice h0, link b h0 L]
      (fun v hs' => ∃ h1 u1 u2 bvs rows, Hp.le h0 h1 ∧ v = .tuple #[u1, u2] ∧ Sl u1 ∧ Sl u2 ∧ Bods h1 bvs (L.take ⟨k, fr, to, seq, ack, body⟩).1 ∧ Pks h1 rows (L.take ⟨k, fr, to, seq, ack, body⟩).2.1 ∧
        hs' = [ice h1, link b h1 (L.take ⟨k, fr, to, seq, ack, body⟩).2.2, vec u1 22 1 (L.take ⟨k, fr, to, seq, ack, body⟩).1.length bvs, vec u2 24 6 (L.take ⟨k, fr, to, seq, ack, body⟩).2.1.length rows.flatten]) := by
  refine Spec.pre ?_ (Ent.swap _ _ _)
  refine Spec.open_ (link_open b h0 L) ?_
  rintro ⟨wv, bvs⟩ ⟨hwv, hbs, ok⟩
  dsimp only [lkI, List.cons_append, List.nil_append] at hwv hbs ⊢
  have hsl : Sl bv := hr.elim SlR.sl SlR.sl
  refine Spec.body Try.func20 rfl Try.ntmps20 rfl ?_
  refine Cod.seq ?_
  refine Cod.region ?_
  refine Ops.ef (.box rfl rfl) rfl rfl rfl ?_
  rintro _ _ ⟨pb, rfl, rfl⟩
  refine Ops.st (.assign rfl) rfl rfl rfl ?_
  refine Ops.st (.assign rfl) rfl rfl rfl ?_
  refine Ops.nil ?_
  refine Ext.seq ?_
  refine Cod.seq ?_
  refine Cod.seq ?_
  refine Cod.regionQ mixed (by kernel_rfl) ?_
  refine Qs.st (.loadPA rfl (by repeat first | exact TakeP.here _ | apply TakeP.there) Try.isAgg24 Try.sizeOf24 rfl rfl) rfl rfl rfl ?_
  refine Qs.call ⟨Try.call12⟩ rfl rfl rfl (by repeat' first | exact Takes.nil _ | exact TakeP.here _ | apply TakeP.there | apply Takes.cons) (fun F' hF => Spec.quiet (right_any ((hr.rd (hs := [pt pb 24 (packC k fr to seq ack bv), pt b 73 (lkC L.e L.p L.f L.s L.nx L.t wv), vec wv 22 1 L.wait.length bvs, ice h0]) (by repeat first | exact TakeP.here _ | apply TakeP.there)).wider hF))) rfl rfl rfl ?_
  refine Qs.st (.notB rfl) rfl rfl rfl ?_
  refine Qs.st (.move rfl) rfl rfl rfl ?_
  refine Qs.splitB (t := 10) rfl (fun hR => ?_) (fun hR => ?_)
  ·
    refine Qs.skipG rfl rfl rfl hR rfl rfl ?_
    refine Qs.skipG rfl rfl rfl hR rfl rfl ?_
    refine Qs.skipG rfl rfl rfl hR rfl rfl ?_
    refine Qs.skipG rfl rfl rfl hR rfl rfl ?_
    refine Qs.skipG rfl rfl rfl hR rfl rfl ?_
    refine Qs.skipG rfl rfl rfl hR rfl rfl ?_
    refine Qs.skipG rfl rfl rfl hR rfl rfl ?_
    refine Qs.skipG rfl rfl rfl hR rfl rfl ?_
    refine Qs.st (.pickT rfl hR rfl) rfl rfl rfl ?_
    refine Qs.nil ?_
    refine Ext.seq ?_
    refine Cod.condT rfl (by simp) ?_
    refine Cod.seq ?_
    refine Cod.region ?_
    have hT : L.take ⟨k, fr, to, seq, ack, body⟩ = ([], [], L) := by rw [LkM.take, if_pos (.inl (by simpa using hR))]
    refine Ops.st (.assign rfl) rfl rfl rfl ?_
    refine Ops.st (.assign rfl) rfl rfl rfl ?_
    refine Ops.nil ?_
    refine Ext.seq ?_
    exact Cod.ret (Ext.seqR (Ext.ret2E rfl rfl rfl (((Ent.fold (A := link b h0 L) (by repeat' first | exact Takes.nil _ | exact TakeP.here _ | apply TakeP.there | apply Takes.cons) (link_mk hwv hbs ok))).trans ((Ent.vecNil (T := 22) (sz := 1)).trans ((Ent.vecNil (T := 24) (sz := 6)).trans (Ent.take (ps := [ice h0, link b h0 L, vec (.slice none 0 0) 22 1 0 [], vec (.slice none 0 0) 24 6 0 []]) (by repeat' first | exact Takes.nil _ | exact TakeP.here _ | apply TakeP.there | apply Takes.cons))))) (⟨h0, _, _, [], [], Hp.le_refl _, rfl, Sl.nil, Sl.nil, by rw [hT]; exact .nil, by rw [hT]; exact .nil, by rw [hT]; rfl⟩)))
  ·
    refine Qs.stG rfl rfl rfl hR (.fieldAddr rfl fa24_1) rfl rfl ?_
    refine Qs.stG rfl rfl rfl hR (.loadP rfl (by repeat first | exact TakeP.here _ | apply TakeP.there) Try.isAgg3 rfl) rfl rfl ?_
    refine Qs.stG rfl rfl rfl hR (.move rfl) rfl rfl ?_
    refine Qs.stG rfl rfl rfl hR (.nilCheck rfl) rfl rfl ?_
    refine Qs.stG rfl rfl rfl hR (.fieldAddr rfl fa73_0) rfl rfl ?_
    refine Qs.stG rfl rfl rfl hR (.fieldAddr rfl fa70_1) rfl rfl ?_
    refine Qs.stG rfl rfl rfl hR (.loadP rfl (by repeat first | exact TakeP.here _ | apply TakeP.there) Try.isAgg3 rfl) rfl rfl ?_
    refine Qs.stG rfl rfl rfl hR (.lss rfl rfl) rfl rfl ?_
    refine Qs.st (.pickF rfl hR rfl) rfl rfl rfl ?_
    refine Qs.nil ?_
    refine Ext.seq ?_
    refine Cod.condD rfl (fun h1 => ?_) (fun h1 => ?_)
    ·
      refine Cod.seq ?_
      refine Cod.region ?_
      have hT : L.take ⟨k, fr, to, seq, ack, body⟩ = ([], [], L) := by rw [LkM.take, if_pos (.inr (by simpa using h1))]
      refine Ops.st (.assign rfl) rfl rfl rfl ?_
      refine Ops.st (.assign rfl) rfl rfl rfl ?_
      refine Ops.nil ?_
      refine Ext.seq ?_
      exact Cod.ret (Ext.seqR (Ext.ret2E rfl rfl rfl (((Ent.fold (A := link b h0 L) (by repeat' first | exact Takes.nil _ | exact TakeP.here _ | apply TakeP.there | apply Takes.cons) (link_mk hwv hbs ok))).trans ((Ent.vecNil (T := 22) (sz := 1)).trans ((Ent.vecNil (T := 24) (sz := 6)).trans (Ent.take (ps := [ice h0, link b h0 L, vec (.slice none 0 0) 22 1 0 [], vec (.slice none 0 0) 24 6 0 []]) (by repeat' first | exact Takes.nil _ | exact TakeP.here _ | apply TakeP.there | apply Takes.cons))))) (⟨h0, _, _, [], [], Hp.le_refl _, rfl, Sl.nil, Sl.nil, by rw [hT]; exact .nil, by rw [hT]; exact .nil, by rw [hT]; rfl⟩)))
    ·
      refine Cod.skip ?_
      refine Ext.seq ?_
      refine Cod.seq ?_
      refine Cod.block ?_
      refine Cod.seq ?_
      refine Cod.region ?_
      have hR' : rightB k fr to seq ack body.length = true := by simpa using hR
      obtain ⟨bk, bfr, bto, bseq, back, bn⟩ := rightB_bounds hR'
      have hN : ¬ (rightB k fr to seq ack body.length = false ∨ fr < L.p) := by rw [hR']; simp; omega
      refine Ops.st (.fieldAddr rfl fa24_0) rfl rfl rfl ?_
      refine Ops.st (.loadP rfl (by repeat first | exact TakeP.here _ | apply TakeP.there) Try.isAgg3 rfl) rfl rfl rfl ?_
      refine Ops.st (.eql rfl rfl) rfl rfl rfl ?_
      refine Ops.st (.assign rfl) rfl rfl rfl ?_
      refine Ops.nil ?_
      refine Ext.seq ?_
      refine Cod.condD rfl (fun h2 => ?_) (fun h2 => ?_)
      ·
        refine Cod.seq ?_
        refine Cod.region ?_
        refine Ops.ent (Ent.fold (A := link b h0 L) (by repeat' first | exact Takes.nil _ | exact TakeP.here _ | apply TakeP.there | apply Takes.cons) (link_mk hwv hbs ok)) ?_
        refine Ops.st (.move rfl) rfl rfl rfl ?_
        refine Ops.st (.fieldAddr rfl fa24_1) rfl rfl rfl ?_
        refine Ops.st (.loadP rfl (by repeat first | exact TakeP.here _ | apply TakeP.there) Try.isAgg3 rfl) rfl rfl rfl ?_
        refine Ops.call ⟨Try.call37⟩ rfl rfl rfl (by repeat' first | exact Takes.nil _ | exact TakeP.here _ | apply TakeP.there | apply Takes.cons) (fun F' hF => meetsL_any bfr) rfl rfl rfl ?_
        rintro _ _ rfl
        refine Ops.nil ?_
        refine Ext.seq ?_
        refine Cod.seq ?_
        refine Cod.region ?_
        refine Ops.open_ (.here _) (link_open b h0 (L.meets fr)) ?_
        rintro ⟨wv2, bvs2⟩ ⟨hwv2, hbs2, ok2⟩
        dsimp only [lkI, List.cons_append, List.nil_append] at hwv2 hbs2 ⊢
        refine Ops.st (.move rfl) rfl rfl rfl ?_
        refine Ops.st (.nilCheck rfl) rfl rfl rfl ?_
        refine Ops.st (.fieldAddr rfl fa73_0) rfl rfl rfl ?_
        refine Ops.st (.loadPA rfl (by repeat first | exact TakeP.here _ | apply TakeP.there) Try.isAgg70 Try.sizeOf70 rfl rfl) rfl rfl rfl ?_
        refine Ops.call ⟨Try.call33⟩ rfl rfl rfl (by repeat' first | exact Takes.nil _ | exact TakeP.here _ | apply TakeP.there | apply Takes.cons) (fun F' hF => bare_any (e := (L.meets fr).e) (p := (L.meets fr).p) (f := (L.meets fr).f) (s := (L.meets fr).s) (nx := (L.meets fr).nx) (t := (L.meets fr).t)) rfl rfl rfl ?_
        rintro _ _ ⟨rfl, rfl⟩
        refine Ops.ef (.lit (xs := [_, _, _, _, _, _]) ei40 rfl rfl rfl rfl (by repeat' first | exact allSz_nil | apply allSz_cons rfl) rfl (by repeat' first | exact One.nil | apply One.cons rfl | (apply One.cons (Sl.one (by assumption))))) rfl rfl rfl ?_
        rintro u _ ⟨hu, rfl⟩
        have hT : L.take ⟨k, fr, to, seq, ack, body⟩ = ([], [⟨2, (L.meets fr).e, (L.meets fr).p, 0, 0, []⟩], L.meets fr) := by rw [LkM.take, if_neg hN, if_pos h2]
        refine Ops.st (.assign rfl) rfl rfl rfl ?_
        refine Ops.st (.assign rfl) rfl rfl rfl ?_
        refine Ops.nil ?_
        refine Ext.seq ?_
        exact Cod.ret (Ext.blockR (Ext.seqR (Ext.ret2E rfl rfl rfl ((Ent.fold (A := link b h0 (L.meets fr)) (by repeat' first | exact Takes.nil _ | exact TakeP.here _ | apply TakeP.there | apply Takes.cons) (link_mk hwv2 hbs2 ok2)).trans ((Ent.vecNil (T := 22) (sz := 1)).trans (Ent.take (ps := [ice h0, link b h0 (L.meets fr), vec (.slice none 0 0) 22 1 0 [], vec u 24 6 1 (packC 2 (L.meets fr).e (L.meets fr).p 0 0 (.slice none 0 0))]) (by repeat' first | exact Takes.nil _ | exact TakeP.here _ | apply TakeP.there | apply Takes.cons)))) (⟨h0, _, _, [], [packC 2 (L.meets fr).e (L.meets fr).p 0 0 (.slice none 0 0)], Hp.le_refl _, rfl, Sl.nil, hu, by rw [hT]; exact .nil, by rw [hT]; exact .cons (p := ⟨2, (L.meets fr).e, (L.meets fr).p, 0, 0, []⟩) (SlR.nil _ _) .nil, by rw [hT]; rfl⟩))))
      ·
        refine Cod.seq ?_
        refine Cod.region ?_
        refine Ops.st (.fieldAddr rfl fa24_0) rfl rfl rfl ?_
        refine Ops.st (.loadP rfl (by repeat first | exact TakeP.here _ | apply TakeP.there) Try.isAgg3 rfl) rfl rfl rfl ?_
        refine Ops.st (.eql rfl rfl) rfl rfl rfl ?_
        refine Ops.st (.assign rfl) rfl rfl rfl ?_
        refine Ops.nil ?_
        refine Ext.seq ?_
        refine Cod.condD rfl (fun h3 => ?_) (fun h3 => ?_)
        ·
          refine Cod.seq ?_
          refine Cod.seq ?_
          refine Cod.regionQ mixed (by kernel_rfl) ?_
          refine Qs.st (.fieldAddr rfl fa24_2) rfl rfl rfl ?_
          refine Qs.st (.loadP rfl (by repeat first | exact TakeP.here _ | apply TakeP.there) Try.isAgg3 rfl) rfl rfl rfl ?_
          refine Qs.st (.move rfl) rfl rfl rfl ?_
          refine Qs.st (.nilCheck rfl) rfl rfl rfl ?_
          refine Qs.st (.fieldAddr rfl fa73_0) rfl rfl rfl ?_
          refine Qs.st (.fieldAddr rfl fa70_0) rfl rfl rfl ?_
          refine Qs.st (.loadP rfl (by repeat first | exact TakeP.here _ | apply TakeP.there) Try.isAgg3 rfl) rfl rfl rfl ?_
          refine Qs.st (.eql rfl rfl) rfl rfl rfl ?_
          refine Qs.nil ?_
          refine Ext.seq ?_
          refine Cod.condD rfl (fun h4 => ?_) (fun h4 => ?_)
          ·
            refine Cod.region ?_
            refine Ops.ent (Ent.fold (A := link b h0 L) (by repeat' first | exact Takes.nil _ | exact TakeP.here _ | apply TakeP.there | apply Takes.cons) (link_mk hwv hbs ok)) ?_
            refine Ops.st (.move rfl) rfl rfl rfl ?_
            refine Ops.st (.fieldAddr rfl fa24_1) rfl rfl rfl ?_
            refine Ops.st (.loadP rfl (by repeat first | exact TakeP.here _ | apply TakeP.there) Try.isAgg3 rfl) rfl rfl rfl ?_
            refine Ops.call ⟨Try.call37⟩ rfl rfl rfl (by repeat' first | exact Takes.nil _ | exact TakeP.here _ | apply TakeP.there | apply Takes.cons) (fun F' hF => meetsL_any bfr) rfl rfl rfl ?_
            rintro _ _ rfl
            refine Ops.nil ?_
            refine Ext.seq ?_
            refine Cod.seq ?_
            refine Cod.region ?_
            have hT : L.take ⟨k, fr, to, seq, ack, body⟩ = ([], [], L.meets fr) := by rw [LkM.take, if_neg hN, if_neg h2, if_pos h3, if_pos h4]
            refine Ops.st (.assign rfl) rfl rfl rfl ?_
            refine Ops.st (.assign rfl) rfl rfl rfl ?_
            refine Ops.nil ?_
            refine Ext.seq ?_
            exact Cod.ret (Ext.blockR (Ext.seqR (Ext.ret2E rfl rfl rfl ((Ent.vecNil (T := 22) (sz := 1)).trans ((Ent.vecNil (T := 24) (sz := 6)).trans (Ent.take (ps := [ice h0, link b h0 (L.meets fr), vec (.slice none 0 0) 22 1 0 [], vec (.slice none 0 0) 24 6 0 []]) (by repeat' first | exact Takes.nil _ | exact TakeP.here _ | apply TakeP.there | apply Takes.cons)))) (⟨h0, _, _, [], [], Hp.le_refl _, rfl, Sl.nil, Sl.nil, by rw [hT]; exact .nil, by rw [hT]; exact .nil, by rw [hT]; rfl⟩))))
          ·
            refine Cod.skip ?_
            refine Ext.seq ?_
            refine Cod.seq ?_
            refine Cod.region ?_
            have hT : L.take ⟨k, fr, to, seq, ack, body⟩ = ([], [], L) := by rw [LkM.take, if_neg hN, if_neg h2, if_pos h3, if_neg h4]
            refine Ops.st (.assign rfl) rfl rfl rfl ?_
            refine Ops.st (.assign rfl) rfl rfl rfl ?_
            refine Ops.nil ?_
            refine Ext.seq ?_
            exact Cod.ret (Ext.blockR (Ext.seqR (Ext.ret2E rfl rfl rfl (((Ent.fold (A := link b h0 L) (by repeat' first | exact Takes.nil _ | exact TakeP.here _ | apply TakeP.there | apply Takes.cons) (link_mk hwv hbs ok))).trans ((Ent.vecNil (T := 22) (sz := 1)).trans ((Ent.vecNil (T := 24) (sz := 6)).trans (Ent.take (ps := [ice h0, link b h0 L, vec (.slice none 0 0) 22 1 0 [], vec (.slice none 0 0) 24 6 0 []]) (by repeat' first | exact Takes.nil _ | exact TakeP.here _ | apply TakeP.there | apply Takes.cons))))) (⟨h0, _, _, [], [], Hp.le_refl _, rfl, Sl.nil, Sl.nil, by rw [hT]; exact .nil, by rw [hT]; exact .nil, by rw [hT]; rfl⟩))))
        ·
          refine Cod.seq ?_
          refine Cod.regionQ mixed (by kernel_rfl) ?_
          refine Qs.st (.fieldAddr rfl fa24_2) rfl rfl rfl ?_
          refine Qs.st (.loadP rfl (by repeat first | exact TakeP.here _ | apply TakeP.there) Try.isAgg3 rfl) rfl rfl rfl ?_
          refine Qs.st (.move rfl) rfl rfl rfl ?_
          refine Qs.st (.nilCheck rfl) rfl rfl rfl ?_
          refine Qs.st (.fieldAddr rfl fa73_0) rfl rfl rfl ?_
          refine Qs.st (.fieldAddr rfl fa70_0) rfl rfl rfl ?_
          refine Qs.st (.loadP rfl (by repeat first | exact TakeP.here _ | apply TakeP.there) Try.isAgg3 rfl) rfl rfl rfl ?_
          refine Qs.st (.neq rfl rfl) rfl rfl rfl ?_
          refine Qs.st (.move rfl) rfl rfl rfl ?_
          refine Qs.splitD (t := 59) rfl (fun h5 => ?_) (fun h5 => ?_)
          ·
            refine Qs.skipG rfl rfl rfl (decide_eq_true h5) rfl rfl ?_
            refine Qs.skipG rfl rfl rfl (decide_eq_true h5) rfl rfl ?_
            refine Qs.skipG rfl rfl rfl (decide_eq_true h5) rfl rfl ?_
            refine Qs.skipG rfl rfl rfl (decide_eq_true h5) rfl rfl ?_
            refine Qs.skipG rfl rfl rfl (decide_eq_true h5) rfl rfl ?_
            refine Qs.skipG rfl rfl rfl (decide_eq_true h5) rfl rfl ?_
            refine Qs.skipG rfl rfl rfl (decide_eq_true h5) rfl rfl ?_
            refine Qs.skipG rfl rfl rfl (decide_eq_true h5) rfl rfl ?_
            refine Qs.st (.pickT rfl (decide_eq_true h5) rfl) rfl rfl rfl ?_
            refine Qs.st (.assign rfl) rfl rfl rfl ?_
            refine Qs.nil ?_
            refine Ext.seq ?_
            refine Cod.condT rfl (by simp) ?_
            refine Cod.seq ?_
            refine Cod.region ?_
            refine Ops.st (.move rfl) rfl rfl rfl ?_
            refine Ops.st (.nilCheck rfl) rfl rfl rfl ?_
            refine Ops.st (.fieldAddr rfl fa73_0) rfl rfl rfl ?_
            refine Ops.st (.loadPA rfl (by repeat first | exact TakeP.here _ | apply TakeP.there) Try.isAgg70 Try.sizeOf70 rfl rfl) rfl rfl rfl ?_
            refine Ops.call ⟨Try.call33⟩ rfl rfl rfl (by repeat' first | exact Takes.nil _ | exact TakeP.here _ | apply TakeP.there | apply Takes.cons) (fun F' hF => bare_any (e := L.e) (p := L.p) (f := L.f) (s := L.s) (nx := L.nx) (t := L.t)) rfl rfl rfl ?_
            rintro _ _ ⟨rfl, rfl⟩
            refine Ops.ef (.lit (xs := [_, _, _, _, _, _]) ei40 rfl rfl rfl rfl (by repeat' first | exact allSz_nil | apply allSz_cons rfl) rfl (by repeat' first | exact One.nil | apply One.cons rfl | (apply One.cons (Sl.one (by assumption))))) rfl rfl rfl ?_
            rintro u _ ⟨hu, rfl⟩
            have hT : L.take ⟨k, fr, to, seq, ack, body⟩ = ([], [⟨1, L.e, L.p, 0, 0, []⟩], L) := by rw [LkM.take, if_neg hN, if_neg h2, if_neg h3, if_pos (.inl h5)]
            refine Ops.st (.assign rfl) rfl rfl rfl ?_
            refine Ops.st (.assign rfl) rfl rfl rfl ?_
            refine Ops.nil ?_
            refine Ext.seq ?_
            exact Cod.ret (Ext.blockR (Ext.seqR (Ext.ret2E rfl rfl rfl (((Ent.fold (A := link b h0 L) (by repeat' first | exact Takes.nil _ | exact TakeP.here _ | apply TakeP.there | apply Takes.cons) (link_mk hwv hbs ok))).trans ((Ent.vecNil (T := 22) (sz := 1)).trans (Ent.take (ps := [ice h0, link b h0 L, vec (.slice none 0 0) 22 1 0 [], vec u 24 6 1 (packC 1 L.e L.p 0 0 (.slice none 0 0))]) (by repeat' first | exact Takes.nil _ | exact TakeP.here _ | apply TakeP.there | apply Takes.cons)))) (⟨h0, _, _, [], [packC 1 L.e L.p 0 0 (.slice none 0 0)], Hp.le_refl _, rfl, Sl.nil, hu, by rw [hT]; exact .nil, by rw [hT]; exact .cons (p := ⟨1, L.e, L.p, 0, 0, []⟩) (SlR.nil _ _) .nil, by rw [hT]; rfl⟩))))
          ·
            refine Qs.stG rfl rfl rfl (decide_eq_false h5) (.fieldAddr rfl fa24_1) rfl rfl ?_
            refine Qs.stG rfl rfl rfl (decide_eq_false h5) (.loadP rfl (by repeat first | exact TakeP.here _ | apply TakeP.there) Try.isAgg3 rfl) rfl rfl ?_
            refine Qs.stG rfl rfl rfl (decide_eq_false h5) (.move rfl) rfl rfl ?_
            refine Qs.stG rfl rfl rfl (decide_eq_false h5) (.nilCheck rfl) rfl rfl ?_
            refine Qs.stG rfl rfl rfl (decide_eq_false h5) (.fieldAddr rfl fa73_0) rfl rfl ?_
            refine Qs.stG rfl rfl rfl (decide_eq_false h5) (.fieldAddr rfl fa70_1) rfl rfl ?_
            refine Qs.stG rfl rfl rfl (decide_eq_false h5) (.loadP rfl (by repeat first | exact TakeP.here _ | apply TakeP.there) Try.isAgg3 rfl) rfl rfl ?_
            refine Qs.stG rfl rfl rfl (decide_eq_false h5) (.gtr rfl rfl) rfl rfl ?_
            refine Qs.st (.pickF rfl (decide_eq_false h5) rfl) rfl rfl rfl ?_
            refine Qs.st (.assign rfl) rfl rfl rfl ?_
            refine Qs.nil ?_
            refine Ext.seq ?_
            refine Cod.condD rfl (fun h6 => ?_) (fun h6 => ?_)
            ·
              refine Cod.seq ?_
              refine Cod.region ?_
              refine Ops.st (.move rfl) rfl rfl rfl ?_
              refine Ops.st (.nilCheck rfl) rfl rfl rfl ?_
              refine Ops.st (.fieldAddr rfl fa73_0) rfl rfl rfl ?_
              refine Ops.st (.loadPA rfl (by repeat first | exact TakeP.here _ | apply TakeP.there) Try.isAgg70 Try.sizeOf70 rfl rfl) rfl rfl rfl ?_
              refine Ops.call ⟨Try.call33⟩ rfl rfl rfl (by repeat' first | exact Takes.nil _ | exact TakeP.here _ | apply TakeP.there | apply Takes.cons) (fun F' hF => bare_any (e := L.e) (p := L.p) (f := L.f) (s := L.s) (nx := L.nx) (t := L.t)) rfl rfl rfl ?_
              rintro _ _ ⟨rfl, rfl⟩
              refine Ops.ef (.lit (xs := [_, _, _, _, _, _]) ei40 rfl rfl rfl rfl (by repeat' first | exact allSz_nil | apply allSz_cons rfl) rfl (by repeat' first | exact One.nil | apply One.cons rfl | (apply One.cons (Sl.one (by assumption))))) rfl rfl rfl ?_
              rintro u _ ⟨hu, rfl⟩
              have hT : L.take ⟨k, fr, to, seq, ack, body⟩ = ([], [⟨1, L.e, L.p, 0, 0, []⟩], L) := by rw [LkM.take, if_neg hN, if_neg h2, if_neg h3, if_pos (.inr h6)]
              refine Ops.st (.assign rfl) rfl rfl rfl ?_
              refine Ops.st (.assign rfl) rfl rfl rfl ?_
              refine Ops.nil ?_
              refine Ext.seq ?_
              exact Cod.ret (Ext.blockR (Ext.seqR (Ext.ret2E rfl rfl rfl (((Ent.fold (A := link b h0 L) (by repeat' first | exact Takes.nil _ | exact TakeP.here _ | apply TakeP.there | apply Takes.cons) (link_mk hwv hbs ok))).trans ((Ent.vecNil (T := 22) (sz := 1)).trans (Ent.take (ps := [ice h0, link b h0 L, vec (.slice none 0 0) 22 1 0 [], vec u 24 6 1 (packC 1 L.e L.p 0 0 (.slice none 0 0))]) (by repeat' first | exact Takes.nil _ | exact TakeP.here _ | apply TakeP.there | apply Takes.cons)))) (⟨h0, _, _, [], [packC 1 L.e L.p 0 0 (.slice none 0 0)], Hp.le_refl _, rfl, Sl.nil, hu, by rw [hT]; exact .nil, by rw [hT]; exact .cons (p := ⟨1, L.e, L.p, 0, 0, []⟩) (SlR.nil _ _) .nil, by rw [hT]; rfl⟩))))
            ·
              refine Cod.skip ?_
              refine Ext.block ?_
              refine Ext.seq ?_
              refine Cod.seq ?_
              refine Cod.region ?_
              have hN5 : ¬ (to ≠ L.e ∨ fr > L.p) := by simp at h5; omega
              refine Ops.ent (Ent.fold (A := link b h0 L) (by repeat' first | exact Takes.nil _ | exact TakeP.here _ | apply TakeP.there | apply Takes.cons) (link_mk hwv hbs ok)) ?_
              refine Ops.st (.move rfl) rfl rfl rfl ?_
              refine Ops.st (.fieldAddr rfl fa24_4) rfl rfl rfl ?_
              refine Ops.st (.loadP rfl (by repeat first | exact TakeP.here _ | apply TakeP.there) Try.isAgg3 rfl) rfl rfl rfl ?_
              refine Ops.call ⟨Try.call38⟩ rfl rfl rfl (by repeat' first | exact Takes.nil _ | exact TakeP.here _ | apply TakeP.there | apply Takes.cons) (fun F' hF => gone_any back) rfl rfl rfl ?_
              rintro _ _ rfl
              refine Ops.nil ?_
              refine Ext.seq ?_
              refine Cod.seq ?_
              refine Cod.seq ?_
              refine Cod.region ?_
              obtain ⟨G, hG⟩ : ∃ G, G = L.gone ack := ⟨_, rfl⟩
              rw [← hG]
              refine Ops.open_ (.here _) (link_open b h0 G) ?_
              rintro ⟨wv2, bvs2⟩ ⟨hwv2, hbs2, ok2⟩
              dsimp only [lkI, List.cons_append, List.nil_append] at hwv2 hbs2 ⊢
              have hnx := ok2.nx
              refine Ops.st (.fieldAddr rfl fa24_3) rfl rfl rfl ?_
              refine Ops.st (.loadP rfl (by repeat first | exact TakeP.here _ | apply TakeP.there) Try.isAgg3 rfl) rfl rfl rfl ?_
              refine Ops.st (.eql rfl rfl) rfl rfl rfl ?_
              refine Ops.nil ?_
              refine Ext.seq ?_
              refine Cod.condD rfl (fun h7 => ?_) (fun h7 => ?_)
              ·
                refine Cod.seq ?_
                refine Cod.region ?_
                have hT : L.take ⟨k, fr, to, seq, ack, body⟩ = ([], [], G) := by rw [LkM.take, if_neg hN, if_neg h2, if_neg h3, if_neg hN5, if_pos h7, hG]
                refine Ops.st (.assign rfl) rfl rfl rfl ?_
                refine Ops.st (.assign rfl) rfl rfl rfl ?_
                refine Ops.nil ?_
                refine Ext.seq ?_
                exact Cod.ret (Ext.seqR (Ext.ret2E rfl rfl rfl ((Ent.fold (A := link b h0 G) (by repeat' first | exact Takes.nil _ | exact TakeP.here _ | apply TakeP.there | apply Takes.cons) (link_mk hwv2 hbs2 ok2)).trans ((Ent.vecNil (T := 22) (sz := 1)).trans ((Ent.vecNil (T := 24) (sz := 6)).trans (Ent.take (ps := [ice h0, link b h0 G, vec (.slice none 0 0) 22 1 0 [], vec (.slice none 0 0) 24 6 0 []]) (by repeat' first | exact Takes.nil _ | exact TakeP.here _ | apply TakeP.there | apply Takes.cons))))) (⟨h0, _, _, [], [], Hp.le_refl _, rfl, Sl.nil, Sl.nil, by rw [hT]; exact .nil, by rw [hT]; exact .nil, by rw [hT]; rfl⟩)))
              ·
                refine Cod.skip ?_
                refine Ext.seq ?_
                refine Cod.seq ?_
                refine Cod.region ?_
                refine Ops.st (.assign rfl) rfl rfl rfl ?_
                refine Ops.nil ?_
                refine Ext.seq ?_
                refine Cod.seq ?_
                refine Cod.seq ?_
                refine Cod.regionQ mixed (by kernel_rfl) ?_
                refine Qs.st (.fieldAddr rfl fa24_3) rfl rfl rfl ?_
                refine Qs.st (.loadP rfl (by repeat first | exact TakeP.here _ | apply TakeP.there) Try.isAgg3 rfl) rfl rfl rfl ?_
                refine Qs.st (.move rfl) rfl rfl rfl ?_
                refine Qs.st (.nilCheck rfl) rfl rfl rfl ?_
                refine Qs.st (.fieldAddr rfl fa73_0) rfl rfl rfl ?_
                refine Qs.st (.fieldAddr rfl fa70_4) rfl rfl rfl ?_
                refine Qs.st (.loadP rfl (by repeat first | exact TakeP.here _ | apply TakeP.there) Try.isAgg3 rfl) rfl rfl rfl ?_
                refine Qs.st (.eql rfl rfl) rfl rfl rfl ?_
                refine Qs.nil ?_
                refine Ext.seq ?_
                refine Cod.condD rfl (fun h8 => ?_) (fun h8 => ?_)
                ·
                  refine Cod.seq ?_
                  refine Cod.region ?_
                  refine Ops.ent (Ent.vecNil (T := 22) (sz := 1)) ?_
                  refine Ops.st (.move rfl) rfl rfl rfl ?_
                  refine Ops.st (.fieldAddr rfl fa24_5) rfl rfl rfl ?_
                  refine Ops.st (.loadP rfl (by repeat first | exact TakeP.here _ | apply TakeP.there) Try.isAgg22 rfl) rfl rfl rfl ?_
                  refine Ops.call ⟨Try.call36⟩ rfl rfl rfl (by repeat' first | exact Takes.nil _ | exact TakeP.here _ | apply TakeP.there | apply Takes.cons) (fun F' hF => clone22_any ((hr.rd (by repeat first | exact TakeP.here _ | apply TakeP.there)).wider hF) (by omega)) rfl rfl rfl ?_
                  rintro u _ ⟨hu, rfl⟩
                  refine Ops.ef (.lit1 ei43 rfl rfl rfl (by repeat' first | exact One.nil | apply One.cons rfl | (apply One.cons (Sl.one (by assumption))))) rfl rfl rfl ?_
                  rintro lv _ ⟨hlv, rfl⟩
                  refine Ops.ef (.append (v := .slice none 0 0) rfl rfl (by repeat first | exact TakeP.here _ | apply TakeP.there) (Rd.vec (v := lv) (by repeat first | exact TakeP.here _ | apply TakeP.there)) ei43 (by omega) (by simp only [maxLen]; omega)) rfl rfl rfl ?_
                  rintro ov _ ⟨hov, rfl⟩
                  refine Ops.st (.assign rfl) rfl rfl rfl ?_
                  refine Ops.nil ?_
                  refine Ext.seq ?_
                  refine Cod.region ?_
                  refine Ops.st (.move rfl) rfl rfl rfl ?_
                  refine Ops.st (.nilCheck rfl) rfl rfl rfl ?_
                  refine Ops.st (.fieldAddr rfl fa73_0) rfl rfl rfl ?_
                  refine Ops.st (.fieldAddr rfl fa70_4) rfl rfl rfl ?_
                  refine Ops.st (.loadP rfl (by repeat first | exact TakeP.here _ | apply TakeP.there) Try.isAgg3 rfl) rfl rfl rfl ?_
                  refine Ops.st (.add rfl rfl (by first | exact IntWalk.i64_in _ (by omega) | rfl)) rfl rfl rfl ?_
                  refine Ops.st (.nilCheck rfl) rfl rfl rfl ?_
                  refine Ops.st (.fieldAddr rfl fa73_0) rfl rfl rfl ?_
                  refine Ops.st (.fieldAddr rfl fa70_4) rfl rfl rfl ?_
                  refine Ops.ef10 (.store rfl rfl (by repeat first | exact TakeP.here _ | apply TakeP.there) Try.sizeOf3 rfl rfl (by simp only [Nat.zero_add, List.set_cons_zero, List.set_cons_succ]; rfl)) rfl rfl ?_
                  refine Ops.nil ?_
                  refine Ext.seq ?_
                  refine Cod.seq ?_
                  refine Cod.region ?_
                  refine Ops.st (.move rfl) rfl rfl rfl ?_
                  refine Ops.st (.move rfl) rfl rfl rfl ?_
                  refine Ops.st (.nilCheck rfl) rfl rfl rfl ?_
                  refine Ops.st (.fieldAddr rfl fa73_0) rfl rfl rfl ?_
                  refine Ops.st (.loadPA rfl (by repeat first | exact TakeP.here _ | apply TakeP.there) Try.isAgg70 Try.sizeOf70 rfl rfl) rfl rfl rfl ?_
                  refine Ops.call ⟨Try.call34⟩ rfl rfl rfl (by repeat' first | exact Takes.nil _ | exact TakeP.here _ | apply TakeP.there | apply Takes.cons) (fun F' hF => data_any (e := G.e) (p := G.p) (f := G.f) (s := G.s) (nx := G.nx + 1) (t := G.t) (seq := 0) (n := 0) (bs := []) (SlR.nil _ _) (by omega) (by omega)) rfl rfl rfl ?_
                  rintro _ _ ⟨u2, rfl, hu2, rfl⟩
                  refine Ops.ef (.lit (xs := [_, _, _, _, _, _]) ei40 rfl rfl rfl rfl (by repeat' first | exact allSz_nil | apply allSz_cons rfl) rfl (by repeat' first | exact One.nil | apply One.cons rfl | (apply One.cons (Sl.one (by assumption))))) rfl rfl rfl ?_
                  rintro qv _ ⟨hqv, rfl⟩
                  refine Ops.freeze (v := u) (by repeat' first | exact Takes.nil _ | exact TakeP.here _ | apply TakeP.there | apply Takes.cons) fun ha hlea hsa => ?_
                  refine Ops.freeze (v := u2) (by repeat' first | exact Takes.nil _ | exact TakeP.here _ | apply TakeP.there | apply Takes.cons) fun hd hled hsd => ?_
                  have hT : L.take ⟨k, fr, to, seq, ack, body⟩ = ([body], [⟨3, G.e, G.p, 0, G.nx + 1 - 1, []⟩], { G with nx := G.nx + 1 }) := by rw [LkM.take, if_neg hN, if_neg h2, if_neg h3, if_neg hN5, if_neg h7, hG, if_pos (by rw [← hG]; exact h8)]
                  have ok3 : ({ G with nx := G.nx + 1 } : LkM).Ok := ⟨ok2.e, ok2.p, ok2.f, ok2.s, by dsimp only; omega, ok2.t, ok2.wait, ok2.each⟩
                  refine Ops.st (.assign rfl) rfl rfl rfl ?_
                  refine Ops.st (.assign rfl) rfl rfl rfl ?_
                  refine Ops.nil ?_
                  refine Ext.seq ?_
                  exact Cod.ret (Ext.ret2E rfl rfl rfl ((Ent.fold (A := link b hd { G with nx := G.nx + 1 }) (by repeat' first | exact Takes.nil _ | exact TakeP.here _ | apply TakeP.there | apply Takes.cons) (link_mk (L := { G with nx := G.nx + 1 }) hwv2 (hbs2.mono (Hp.le_trans hlea hled)) ok3)).trans (Ent.take (ps := [ice hd, link b hd { G with nx := G.nx + 1 }, vec ov 22 1 1 [u], vec qv 24 6 1 (packC 3 G.e G.p 0 (G.nx + 1 - 1) u2)]) (by repeat' first | exact Takes.nil _ | exact TakeP.here _ | apply TakeP.there | apply Takes.cons))) (⟨hd, _, _, [u], [packC 3 G.e G.p 0 (G.nx + 1 - 1) u2], Hp.le_trans hlea hled, rfl, hov, hqv, by rw [hT]; exact .cons (hsa.mono hled) .nil, by rw [hT]; exact .cons (p := ⟨3, G.e, G.p, 0, G.nx + 1 - 1, []⟩) hsd .nil, by rw [hT]; rfl⟩))
                ·
                  refine Cod.skip ?_
                  refine Ext.seq ?_
                  refine Cod.seq ?_
                  refine Cod.region ?_
                  refine Ops.st (.move rfl) rfl rfl rfl ?_
                  refine Ops.st (.move rfl) rfl rfl rfl ?_
                  refine Ops.st (.nilCheck rfl) rfl rfl rfl ?_
                  refine Ops.st (.fieldAddr rfl fa73_0) rfl rfl rfl ?_
                  refine Ops.st (.loadPA rfl (by repeat first | exact TakeP.here _ | apply TakeP.there) Try.isAgg70 Try.sizeOf70 rfl rfl) rfl rfl rfl ?_
                  refine Ops.call ⟨Try.call34⟩ rfl rfl rfl (by repeat' first | exact Takes.nil _ | exact TakeP.here _ | apply TakeP.there | apply Takes.cons) (fun F' hF => data_any (e := G.e) (p := G.p) (f := G.f) (s := G.s) (nx := G.nx) (t := G.t) (seq := 0) (n := 0) (bs := []) (SlR.nil _ _) (by omega) (by omega)) rfl rfl rfl ?_
                  rintro _ _ ⟨u2, rfl, hu2, rfl⟩
                  refine Ops.ef (.lit (xs := [_, _, _, _, _, _]) ei40 rfl rfl rfl rfl (by repeat' first | exact allSz_nil | apply allSz_cons rfl) rfl (by repeat' first | exact One.nil | apply One.cons rfl | (apply One.cons (Sl.one (by assumption))))) rfl rfl rfl ?_
                  rintro qv _ ⟨hqv, rfl⟩
                  refine Ops.freeze (v := u2) (by repeat' first | exact Takes.nil _ | exact TakeP.here _ | apply TakeP.there | apply Takes.cons) fun hd hled hsd => ?_
                  have hT : L.take ⟨k, fr, to, seq, ack, body⟩ = ([], [⟨3, G.e, G.p, 0, G.nx - 1, []⟩], G) := by rw [LkM.take, if_neg hN, if_neg h2, if_neg h3, if_neg hN5, if_neg h7, hG, if_neg (by rw [← hG]; exact h8)]
                  refine Ops.st (.assign rfl) rfl rfl rfl ?_
                  refine Ops.st (.assign rfl) rfl rfl rfl ?_
                  refine Ops.nil ?_
                  refine Ext.seq ?_
                  exact Cod.ret (Ext.ret2E rfl rfl rfl ((Ent.fold (A := link b hd G) (by repeat' first | exact Takes.nil _ | exact TakeP.here _ | apply TakeP.there | apply Takes.cons) (link_mk hwv2 (hbs2.mono hled) ok2)).trans ((Ent.vecNil (T := 22) (sz := 1)).trans (Ent.take (ps := [ice hd, link b hd G, vec (.slice none 0 0) 22 1 0 [], vec qv 24 6 1 (packC 3 G.e G.p 0 (G.nx - 1) u2)]) (by repeat' first | exact Takes.nil _ | exact TakeP.here _ | apply TakeP.there | apply Takes.cons)))) (⟨hd, _, _, [], [packC 3 G.e G.p 0 (G.nx - 1) u2], hled, rfl, Sl.nil, hqv, by rw [hT]; exact .nil, by rw [hT]; exact .cons (p := ⟨3, G.e, G.p, 0, G.nx - 1, []⟩) hsd .nil, by rw [hT]; rfl⟩))
end Go.Proofs.Ytjlimnckdblkhaa
