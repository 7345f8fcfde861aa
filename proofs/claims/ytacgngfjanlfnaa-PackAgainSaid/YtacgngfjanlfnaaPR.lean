/- A value, a list and a record out of bytes: the program's walk. No condition. -/
import Derived.Test.YtacgngfjanlfnaaPQ
namespace Go.Proofs.Ytacgngfjanlfnaa
open Go

theorem cont_nil {α : Type} (o : Option (List α × List UInt8)) : o = cont [] o := by cases o with | none => rfl | some p => rfl
theorem cont_end {α : Type} (l : List α) (bs : List UInt8) : cont l (some ([], bs)) = some (l, bs) := by simp [cont]
theorem done_is {α : Type} {E : Option (List α × List UInt8)} {am : Bool} {l : List α} {bs : List UInt8} (h1 : am = false → E = some (l, bs)) (h2 : am = true → E = none) : am = E.isNone ∧ ∀ l' r, E = some (l', r) → l = l' ∧ bs = r := by
  cases am
  · rw [h1 rfl]; exact ⟨rfl, fun l' r h => by simp only [Option.some.injEq, Prod.mk.injEq] at h; exact h⟩
  · rw [h2 rfl]; exact ⟨rfl, fun l' r h => by cases h⟩
theorem RecsR.snoc {h : Hp} {r : List Val} {rv : Value} {rcs : List Value} (hs : SlR h rv 3 r.length rcs) (hv : ValsR h r rcs) : ∀ {rs : List (List Val)} {cs : List Value}, RecsR h rs cs → RecsR h (rs ++ [r]) (cs ++ [rv])
  | [], cs, x => by rw [RecsR] at x; subst x; rw [List.nil_append, List.nil_append, RecsR]; exact ⟨rv, rcs, [], rfl, hs, hv, by rw [RecsR]⟩
  | w :: rs, cs, x => by
    rw [RecsR] at x
    obtain ⟨a, b, c, rfl, h1, h2, h3⟩ := x
    rw [List.cons_append, RecsR]
    exact ⟨a, b, c ++ [rv], rfl, h1, h2, RecsR.snoc hs hv h3⟩
theorem dec_step {fs : List Fld} {n : Nat} {bs bs2 : List UInt8} {a : List (List Val)} {v : List Val} {E : Option (List (List Val) × List UInt8)} (he : E = cont a (rep (fun bs => decR fs bs) (n + 1) bs)) (hd : ∀ w r, decR fs bs = some (w, r) → v = w ∧ bs2 = r) :
    ((decR fs bs).isNone = false → E = cont (a ++ [v]) (rep (fun bs => decR fs bs) n bs2)) ∧ ((decR fs bs).isNone = true → E = none) := by
  obtain ⟨h1, h2⟩ := rep_next _ he
  cases hq : decR fs bs with
  | none => exact ⟨fun h => (by cases h), fun _ => h2 hq⟩
  | some p =>
    obtain ⟨w, r⟩ := p
    obtain ⟨rfl, rfl⟩ := hd w r hq
    exact ⟨fun _ => h1 _ _ hq, fun h => by cases h⟩
theorem dec_step' {f : Fld} {fs : List Fld} {bs bs2 : List UInt8} {a : List Val} {v : Val} {E : Option (List Val × List UInt8)} (he : E = cont a (decR (f :: fs) bs)) (hd : ∀ w r, decF f bs = some (w, r) → v = w ∧ bs2 = r) :
    ((decF f bs).isNone = false → E = cont (a ++ [v]) (decR fs bs2)) ∧ ((decF f bs).isNone = true → E = none) := by
  obtain ⟨h1, h2⟩ := decR_next _ he
  cases hq : decF f bs with
  | none => exact ⟨fun h => (by cases h), fun _ => h2 hq⟩
  | some p =>
    obtain ⟨w, r⟩ := p
    obtain ⟨rfl, rfl⟩ := hd w r hq
    exact ⟨fun _ => h1 _ _ hq, fun h => by cases h⟩

theorem one_any {d : Nat} (ih : (∀ {F : Fr} {rb : Nat} {bv lv : Value} {bs : List UInt8} {cs : List Value} {fs : List Fld} {m : Nat} {H h0 : Hp}, Hp.le H F.hf → SlR H bv 1 bs.length (u8s bs) → SlR F.hf lv 4 fs.length cs → FldsR F.hf fs cs → mostR (d + 1) fs = some m → Spec Try.prog F 31 [.pointer (some ⟨rb, 0, none⟩), lv] [pt rb 57 [bv, .bool false], ice h0] (RecP H 57 rb h0 fs bs))) {F : Fr} {rb b2 b3 : Nat} {bv ov : Value} {bs : List UInt8} {ocs : List Value} {k : Int} {mn mx : UInt64} {of : List Fld} {m : Nat} {H h0 : Hp} (hH : Hp.le H F.hf) (hb : SlR H bv 1 bs.length (u8s bs)) (hor : SlR F.hf ov 4 of.length ocs) (hoc : FldsR F.hf of ocs) (hm : mostR (d + 1) of = some m) :
    Spec Try.prog F 46 [.pointer (some ⟨b2, 0, none⟩), .pointer (some ⟨b3, 0, none⟩)] [pt b2 56 [.pointer (some ⟨rb, 0, none⟩)], pt b3 37 [.int .i64 k, W64 mn, W64 mx, ov], pt rb 57 [bv, .bool false], ice h0] (fun u hs' => ∃ st, RecP H 57 rb h0 of bs u st ∧ hs' = [pt b2 56 [.pointer (some ⟨rb, 0, none⟩)], pt b3 37 [.int .i64 k, W64 mn, W64 mx, ov]] ++ st) := by
  refine Spec.body Try.func46 rfl Try.ntmps46 rfl ?_
  refine Cod.seq ?_
  refine Cod.region ?_
  refine Ops.st (.assign rfl) rfl rfl rfl ?_
  refine Ops.nil ?_
  refine Ext.seq ?_
  refine Cod.seq ?_
  refine Cod.region ?_
  refine Ops.st (.loadP rfl (by repeat first | exact TakeP.here _ | apply TakeP.there) Try.isAgg56 rfl) rfl rfl rfl ?_
  refine Ops.st (.fieldAddr rfl fa37_3) rfl rfl rfl ?_
  refine Ops.st (.loadP rfl (by repeat first | exact TakeP.here _ | apply TakeP.there) Try.isAgg22 rfl) rfl rfl rfl ?_
  refine Ops.call ⟨Try.call31⟩ rfl rfl rfl (by repeat' first | exact Takes.nil _ | exact TakeP.here _ | apply TakeP.there | apply Takes.cons) (fun F' hF => ih (Hp.le_tr hH hF.hf) hb (hor.mono hF.hf) (hoc.mono hF.hf of) hm) rfl rfl rfl ?_
  rintro u _ ⟨bv', bs', h1, ws, vs, hle, hb', hu, hv, rfl, hd⟩
  refine Ops.st (.assign rfl) rfl rfl rfl ?_
  refine Ops.nil ?_
  refine Ext.seq ?_
  exact Cod.ret (Ext.retE rfl rfl (Ent.take (ps := [pt b2 56 [.pointer (some ⟨rb, 0, none⟩)], pt b3 37 [.int .i64 k, W64 mn, W64 mx, ov]] ++ [pt rb 57 [bv', .bool (decR of bs).isNone], ice h1]) (by repeat' first | exact Takes.nil _ | exact TakeP.here _ | apply TakeP.there | apply Takes.cons)) (⟨_, ⟨bv', bs', h1, ws, vs, hle, hb', hu, hv, rfl, hd⟩, rfl⟩))
theorem list_any {d : Nat} (ih : (∀ {F : Fr} {rb : Nat} {bv lv : Value} {bs : List UInt8} {cs : List Value} {fs : List Fld} {m : Nat} {H h0 : Hp}, Hp.le H F.hf → SlR H bv 1 bs.length (u8s bs) → SlR F.hf lv 4 fs.length cs → FldsR F.hf fs cs → mostR (d + 1) fs = some m → Spec Try.prog F 31 [.pointer (some ⟨rb, 0, none⟩), lv] [pt rb 57 [bv, .bool false], ice h0] (RecP H 57 rb h0 fs bs))) {F : Fr} {rb b2 b3 : Nat} {bv ov : Value} {bs : List UInt8} {ocs : List Value} {k : Int} {mn mx z : UInt64} {of : List Fld} {m : Nat} {H h0 : Hp} {q : Bool} (hz : z.toNat ≤ 65536) (hH : Hp.le H F.hf) (hb : SlR H bv 1 bs.length (u8s bs)) (hor : SlR F.hf ov 4 of.length ocs) (hoc : FldsR F.hf of ocs) (hm : mostR (d + 1) of = some m) :
    Spec Try.prog F 45 [.pointer (some ⟨rb, 0, none⟩), W64 z, .func (.func 46) #[] #[.pointer (some ⟨b2, 0, none⟩), .pointer (some ⟨b3, 0, none⟩)]] [pt b2 56 [.pointer (some ⟨rb, 0, none⟩)], pt b3 37 [.int .i64 k, W64 mn, W64 mx, ov], pt rb 57 [bv, .bool q], ice h0]
      (fun u hs' => ∃ bv' bs' h1 l rows, Hp.le h0 h1 ∧ SlR H bv' 1 (bs' : List UInt8).length (u8s bs') ∧ SlR h1 u 1 (l : List (List Val)).length rows ∧ RecsR h1 l rows ∧ hs' = [pt rb 57 [bv', .bool (repM q of z.toNat bs).isNone], ice h1] ∧ ∀ l' r, repM q of z.toNat bs = some (l', r) → l = l' ∧ bs' = r) := by
  refine Spec.body Try.func45 rfl Try.ntmps45 rfl ?_
  refine Cod.seq ?_
  refine Cod.region ?_
  refine Ops.st (.assign rfl) rfl rfl rfl ?_
  refine Ops.nil ?_
  refine Ext.seq ?_
  refine Cod.seq ?_
  refine Cod.region ?_
  refine Ops.st (.assign rfl) rfl rfl rfl ?_
  refine Ops.nil ?_
  refine Ext.seq ?_
  refine Cod.seq ?_
  refine Cod.seq ?_
  refine Cod.region ?_
  refine Ops.st (.move rfl) rfl rfl rfl ?_
  refine Ops.st (.move rfl) rfl rfl rfl ?_
  refine Ops.nil ?_
  refine Ext.seq ?_
  refine Cod.block ?_
  refine Cod.loop (fun g : Nat × Bool × Value × List UInt8 × Value × Hp × List (List Val) × List Value => ⟨g.1 ≤ z.toNat ∧ Sl g.2.2.2.2.1 ∧ Hp.le h0 g.2.2.2.2.2.1 ∧ SlR H g.2.2.1 1 g.2.2.2.1.length (u8s g.2.2.2.1) ∧ RecsR g.2.2.2.2.2.1 g.2.2.2.2.2.2.1 g.2.2.2.2.2.2.2 ∧ g.2.2.2.2.2.2.1.length = g.1 ∧ (g.2.1 = false → repM q of z.toNat bs = cont g.2.2.2.2.2.2.1 (rep (fun bs => decR of bs) (z.toNat - g.1) g.2.2.2.1)) ∧ (g.2.1 = true → repM q of z.toNat bs = none), [(0, .pointer (some ⟨rb, 0, none⟩)), (2, .func (.func 46) #[] #[.pointer (some ⟨b2, 0, none⟩), .pointer (some ⟨b3, 0, none⟩)]), (7, g.2.2.2.2.1), (8, W64 z), (9, W64 (UInt64.ofNat g.1))], [pt b2 56 [.pointer (some ⟨rb, 0, none⟩)], pt b3 37 [.int .i64 k, W64 mn, W64 mx, ov], pt rb 57 [g.2.2.1, .bool g.2.1], vec g.2.2.2.2.1 23 1 g.1 g.2.2.2.2.2.2.2, ice g.2.2.2.2.2.1]⟩) (fun g => z.toNat - g.1) (0, q, bv, bs, .slice none 0 0, h0, [], []) ⟨Nat.zero_le _, Sl.nil, Hp.le_rfl _, hb, by rw [RecsR], rfl, fun h => by dsimp only at h; rw [h, repM, if_neg (by decide)]; exact cont_nil _, fun h => by dsimp only at h; rw [h, repM, if_pos rfl]⟩ ⟨rfl, rfl, rfl, rfl, rfl, trivial⟩ ((Ent.vecNil (T := 23) (sz := 1)).trans (Ent.take (by repeat' first | exact Takes.nil _ | exact TakeP.here _ | apply TakeP.there | apply Takes.cons))) ?_
  rintro ⟨j, am, bvj, bsj, uv, hh, l, rows⟩ ⟨hj, huv, hle, hbj, hl, hll, he1, he2⟩
  dsimp only
  refine Cod.seq ?_
  refine Cod.region ?_
  dsimp only at hj huv hle hbj hl hll he1 he2
  have ej : (UInt64.ofNat j).toNat = j := by rw [UInt64.toNat_ofNat']; omega
  refine Ops.st (.lss rfl rfl) rfl rfl rfl ?_
  refine Ops.nil ?_
  refine Ext.seq ?_
  refine Cod.seq ?_
  refine Cod.condD rfl (fun h1 => ?_) (fun h1 => ?_)
  ·
    refine Cod.skip ?_
    refine Ext.seq ?_
    refine Cod.seq ?_
    refine Cod.block ?_
    refine Cod.seq ?_
    refine Cod.seq ?_
    refine Cod.region ?_
    rw [ej] at h1
    refine Ops.st (.move rfl) rfl rfl rfl ?_
    refine Ops.st (.nilCheck rfl) rfl rfl rfl ?_
    refine Ops.st (.fieldAddr rfl fa57_1) rfl rfl rfl ?_
    refine Ops.st (.loadP rfl (by repeat first | exact TakeP.here _ | apply TakeP.there) Try.isAgg4 rfl) rfl rfl rfl ?_
    refine Ops.nil ?_
    refine Ext.seq ?_
    refine Cod.cond rfl (fun h2 => ?_) (fun h2 => ?_)
    ·
      refine Cod.seq ?_
      refine Cod.region ?_
      rw [he2 h2, h2]
      refine Ops.st (.assign rfl) rfl rfl rfl ?_
      refine Ops.nil ?_
      refine Ext.seq ?_
      exact Cod.ret (Ext.seqR (Ext.blockR (Ext.seqR (Ext.stopR (Ext.blockR (Ext.seqR (Ext.retE rfl rfl (Ent.take (ps := [pt rb 57 [bvj, .bool true], ice hh]) (by repeat' first | exact Takes.nil _ | exact TakeP.here _ | apply TakeP.there | apply Takes.cons)) (⟨bvj, bsj, hh, [], [], hle, hbj, SlR.nil _ _, by rw [RecsR], rfl, fun l' r h => (by cases h)⟩))))))))
    ·
      refine Cod.skip ?_
      refine Ext.seq ?_
      refine Cod.region ?_
      subst h2
      have he3 := he1 rfl
      rw [show z.toNat - j = (z.toNat - (j + 1)) + 1 by omega] at he3
      refine Ops.st (.move rfl) rfl rfl rfl ?_
      refine Ops.st (.move rfl) rfl rfl rfl ?_
      refine Ops.call ⟨Try.call46⟩ rfl rfl rfl (by repeat' first | exact Takes.nil _ | exact TakeP.here _ | apply TakeP.there | apply Takes.cons) (fun F' hF => one_any ih (Hp.le_tr hH hF.hf) hbj (hor.mono hF.hf) (hoc.mono hF.hf of) hm) rfl rfl rfl ?_
      rintro rv _ ⟨st, ⟨bv2, bs2, h3, ws, r, hle2, hb2, hr2, hv2, rfl, hdec⟩, rfl⟩
      have hrs := hr2.sl
      obtain ⟨hn1, hn2⟩ := dec_step he3 hdec
      refine Ops.ef (.lit1 ei38 rfl rfl rfl (by repeat' first | exact One.nil | apply One.cons rfl | (apply One.cons (Sl.one (by assumption))))) rfl rfl rfl ?_
      rintro lv _ ⟨hlv, rfl⟩
      refine Ops.ef (.append (v := uv) rfl rfl (by repeat first | exact TakeP.here _ | apply TakeP.there) (Rd.vec (v := lv) (by repeat first | exact TakeP.here _ | apply TakeP.there)) ei38 (by omega) (by simp only [maxLen]; omega)) rfl rfl rfl ?_
      rintro nv _ ⟨hnv, rfl⟩
      refine Ops.st (.assign rfl) rfl rfl rfl ?_
      refine Ops.nil ?_
      refine Ext.block ?_
      refine Ext.seq ?_
      refine Cod.region ?_
      refine Ops.st (.addW64 rfl (show _ = some (W64 1) from rfl)) rfl rfl rfl ?_
      refine Ops.st (.move rfl) rfl rfl rfl ?_
      refine Ops.nil ?_
      exact Ext.back (j + 1, (decR of bsj).isNone, bv2, bs2, nv, h3, l ++ [r], rows ++ [rv]) (by dsimp only; omega) ⟨by dsimp only; omega, hnv, Hp.le_tr hle hle2, hb2, RecsR.snoc hr2 hv2 (hl.mono hle2 _), by dsimp only; rw [List.length_append, hll]; rfl, hn1, hn2⟩ ⟨rfl, rfl, rfl, rfl, by dsimp only; rw [UInt64.ofNat_add]; rfl, trivial⟩ (by dsimp only; exact Ent.take (by repeat' first | exact Takes.nil _ | exact TakeP.here _ | apply TakeP.there | apply Takes.cons))
  ·
    refine Cod.exit (Ext.seqX (Ext.stopX (Ext.hit ?_)))
    refine Ext.seq ?_
    refine Cod.seq ?_
    refine Cod.region ?_
    rw [ej] at h1
    obtain rfl : j = z.toNat := by omega
    rw [Nat.sub_self, rep] at he1
    obtain ⟨hd1, hd2⟩ := done_is (fun h => (he1 h).trans (cont_end l bsj)) he2
    refine Ops.freeze (v := uv) (by repeat' first | exact Takes.nil _ | exact TakeP.here _ | apply TakeP.there | apply Takes.cons) fun hd hle3 hsn => ?_
    refine Ops.st (.move rfl) rfl rfl rfl ?_
    refine Ops.st (.assign rfl) rfl rfl rfl ?_
    refine Ops.nil ?_
    refine Ext.seq ?_
    exact Cod.ret (Ext.retE rfl rfl (Ent.take (ps := [pt rb 57 [bvj, .bool am], ice hd]) (by repeat' first | exact Takes.nil _ | exact TakeP.here _ | apply TakeP.there | apply Takes.cons)) (⟨bvj, bsj, hd, l, rows, Hp.le_tr hle hle3, hbj, by rw [hll]; exact hsn, hl.mono hle3 _, by rw [hd1], hd2⟩))
end Go.Proofs.Ytacgngfjanlfnaa
