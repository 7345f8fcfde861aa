/- The disk's functions: what each does to its sectors, its plan and its power. No condition. -/
import Derived.Test.YtjlgdbmeajdciaaT
import Derived.Test.YtjlgdbmeajdciaaL9
namespace Go.Proofs.Ytjlgdbmeajdciaa
open Go

/-- A disk: its sectors, of those that are not synced what they were, the plan, whether the power is off. -/
structure DiskM where
  now : List (List UInt8)
  dirty : List (Int × List UInt8)
  plan : List UInt8
  off : Bool

def secCs (l : List (List UInt8)) : List Value := l.flatMap u8s
def dirtyV (l : List (Int × List UInt8)) : List (Int × Value) := l.map fun e => (e.1, .agg (u8s e.2).toArray)
structure DiskM.Ok (D : DiskM) : Prop where
  now : ∀ s ∈ D.now, s.length = 128
  dirty : ∀ e ∈ D.dirty, e.2.length = 128
  size : D.now.length ≤ 4096

structure DI where
  nb : Nat
  mr : Nat
  pv : Value
abbrev dI (b : Nat) (D : DiskM) (x : DI) : List SP :=
  [pt b 60 [.slice (some ⟨x.nb, 0, none⟩) D.now.length D.now.length, .map (some x.mr), x.pv, .bool D.off], pt x.nb 62 (secCs D.now), mp x.mr (Value.int .i64) (dirtyV D.dirty), vec x.pv 5 1 D.plan.length (u8s D.plan)]
def disk (b : Nat) (D : DiskM) (h : Hp) : Prop := ∃ x, (Sl x.pv ∧ D.Ok) ∧ SL (dI b D x) h
theorem disk_open (b : Nat) (D : DiskM) : ∀ z, disk b D z → ∃ x, (Sl x.pv ∧ D.Ok) ∧ SL (dI b D x) z := fun _ h => h
theorem disk_mk {b nb mr : Nat} {pv : Value} {D : DiskM} (h : Sl pv) (ok : D.Ok) : ∀ z, SL [pt b 60 [.slice (some ⟨nb, 0, none⟩) D.now.length D.now.length, .map (some mr), pv, .bool D.off], pt nb 62 (secCs D.now), mp mr (Value.int .i64) (dirtyV D.dirty), vec pv 5 1 D.plan.length (u8s D.plan)] z → disk b D z :=
  fun _ hz => ⟨⟨nb, mr, pv⟩, ⟨h, ok⟩, hz⟩

theorem secCs_len {l : List (List UInt8)} (h : ∀ s ∈ l, s.length = 128) : (secCs l).length = l.length * 128 := by
  induction l with
  | nil => rfl
  | cons a l ih =>
    have ha := h a (by simp)
    have := ih fun s hs => h s (by simp [hs])
    simp only [secCs, List.flatMap_cons, List.length_append, u8s_len, List.length_cons] at this ⊢
    omega
theorem secCs_one (l : List (List UInt8)) : One (secCs l) := by
  intro u hu
  obtain ⟨s, _, hs⟩ := List.mem_flatMap.1 hu
  exact u8s_one s u hs

/-- What a change meets. -/
def DiskM.meet (D : DiskM) : Int × DiskM :=
  if D.off then (7, D) else
  match D.plan with
  | [] => (0, D)
  | c :: r => if c = 1 then (6, { D with plan := r }) else if c = 2 then (7, { D with plan := r, off := true }) else (0, { D with plan := r })
theorem DiskM.Ok.meet {D : DiskM} (h : D.Ok) : D.meet.2.Ok := by
  unfold DiskM.meet
  split
  · exact h
  · split
    · exact h
    · split
      · exact ⟨h.now, h.dirty, h.size⟩
      · split <;> exact ⟨h.now, h.dirty, h.size⟩

theorem vec_tail {v : Value} {T : TypeId} {l r : List UInt8} {c : UInt8} {h : Hp} (hp : l = c :: r) (z : vec v T 1 l.length (u8s l) h) : vec (Value.cut v 1 l.length 1) T 1 r.length (u8s r) h := by
  have := z.cut (lo := 1) (hi := l.length) (by rw [hp]; simp) (Nat.le_refl _)
  have e : ((u8s l).drop (1 * 1)).take ((l.length - 1) * 1) = u8s r := by
    subst hp
    rw [u8s_drop, u8s_take]
    simp
  have e2 : l.length - 1 = r.length := by subst hp; simp
  rw [e, e2] at this
  exact this
theorem u8_eq {c : UInt8} {k : Int} (h : (c.toNat : Int) = k) : c = UInt8.ofNat k.toNat := by subst h; simp
theorem u8_ne {c d : UInt8} {k : Int} (h : ¬ (c.toNat : Int) = k) (hk : (d.toNat : Int) = k) : c ≠ d := by
  intro e
  subst e
  exact h hk

theorem off_any {F : Fr} {b : Nat} {D : DiskM} : Spec Try.prog F 16 [.pointer (some ⟨b, 0, none⟩)] [disk b D] (fun v hs' => v = .bool D.off ∧ hs' = [disk b D]) := by
  refine Spec.open_ (disk_open b D) ?_
  rintro ⟨nb, mr, pv⟩ ⟨hpv, ok⟩
  dsimp only [dI, List.cons_append, List.nil_append] at hpv ⊢
  refine Spec.body Try.func16 rfl Try.ntmps16 rfl ?_
  refine Cod.seq ?_
  refine Cod.region ?_
  refine Ops.st (.assign rfl) rfl rfl rfl ?_
  refine Ops.nil ?_
  refine Ext.seq ?_
  refine Cod.seq ?_
  refine Cod.region ?_
  refine Ops.st (.move rfl) rfl rfl rfl ?_
  refine Ops.st (.nilCheck rfl) rfl rfl rfl ?_
  refine Ops.st (.fieldAddr rfl fa60_3) rfl rfl rfl ?_
  refine Ops.st (.loadP rfl (by repeat first | exact TakeP.here _ | apply TakeP.there) Try.isAgg4 rfl) rfl rfl rfl ?_
  refine Ops.st (.assign rfl) rfl rfl rfl ?_
  refine Ops.nil ?_
  refine Ext.seq ?_
  exact Cod.ret (Ext.retE rfl rfl (Ent.fold (by repeat' first | exact Takes.nil _ | exact TakeP.here _ | apply TakeP.there | apply Takes.cons) (disk_mk hpv ok)) (⟨rfl, rfl⟩))

theorem len_any {F : Fr} {b : Nat} {D : DiskM} : Spec Try.prog F 14 [.pointer (some ⟨b, 0, none⟩)] [disk b D] (fun v hs' => v = .int .i64 D.now.length ∧ hs' = [disk b D]) := by
  refine Spec.open_ (disk_open b D) ?_
  rintro ⟨nb, mr, pv⟩ ⟨hpv, ok⟩
  dsimp only [dI, List.cons_append, List.nil_append] at hpv ⊢
  refine Spec.body Try.func14 rfl Try.ntmps14 rfl ?_
  refine Cod.seq ?_
  refine Cod.region ?_
  refine Ops.st (.assign rfl) rfl rfl rfl ?_
  refine Ops.nil ?_
  refine Ext.seq ?_
  refine Cod.seq ?_
  refine Cod.region ?_
  refine Ops.st (.move rfl) rfl rfl rfl ?_
  refine Ops.st (.nilCheck rfl) rfl rfl rfl ?_
  refine Ops.st (.fieldAddr rfl fa60_0) rfl rfl rfl ?_
  refine Ops.st (.loadP rfl (by repeat first | exact TakeP.here _ | apply TakeP.there) Try.isAgg57 rfl) rfl rfl rfl ?_
  refine Ops.st (.len rfl (Rd.pt (by repeat first | exact TakeP.here _ | apply TakeP.there) (secCs_len ok.now) (Nat.le_refl _) (by have := ok.size; simp only [maxLen]; omega) (secCs_one _) (by intro i u h; simpa using h)) Try.runUnderlying57) rfl rfl rfl ?_
  refine Ops.st (.assign rfl) rfl rfl rfl ?_
  refine Ops.nil ?_
  refine Ext.seq ?_
  exact Cod.ret (Ext.retE rfl rfl (Ent.fold (by repeat' first | exact Takes.nil _ | exact TakeP.here _ | apply TakeP.there | apply Takes.cons) (disk_mk hpv ok)) (⟨rfl, rfl⟩))

theorem has_any {F : Fr} {b : Nat} {k : Int} {D : DiskM} : Spec Try.prog F 26 [.pointer (some ⟨b, 0, none⟩), .int .i64 k] [disk b D] (fun v hs' => v = .bool (decide (0 ≤ k ∧ k < D.now.length)) ∧ hs' = [disk b D]) := by
  refine Spec.open_ (disk_open b D) ?_
  rintro ⟨nb, mr, pv⟩ ⟨hpv, ok⟩
  dsimp only [dI, List.cons_append, List.nil_append] at hpv ⊢
  refine Spec.body Try.func26 rfl Try.ntmps26 rfl ?_
  refine Cod.seq ?_
  refine Cod.region ?_
  refine Ops.st (.assign rfl) rfl rfl rfl ?_
  refine Ops.nil ?_
  refine Ext.seq ?_
  refine Cod.seq ?_
  refine Cod.region ?_
  refine Ops.st (.move rfl) rfl rfl rfl ?_
  refine Ops.st (.geq rfl rfl) rfl rfl rfl ?_
  refine Ops.st (.move rfl) rfl rfl rfl ?_
  refine Ops.splitD (t := 7) rfl (fun h => ?_) (fun h => ?_)
  ·
    refine Ops.stG rfl rfl rfl (decide_eq_true h) (.move rfl) rfl rfl ?_
    refine Ops.stG rfl rfl rfl (decide_eq_true h) (.move rfl) rfl rfl ?_
    refine Ops.stG rfl rfl rfl (decide_eq_true h) (.nilCheck rfl) rfl rfl ?_
    refine Ops.stG rfl rfl rfl (decide_eq_true h) (.fieldAddr rfl fa60_0) rfl rfl ?_
    refine Ops.stG rfl rfl rfl (decide_eq_true h) (.loadP rfl (by repeat first | exact TakeP.here _ | apply TakeP.there) Try.isAgg57 rfl) rfl rfl ?_
    refine Ops.stG rfl rfl rfl (decide_eq_true h) (.len rfl (Rd.pt (by repeat first | exact TakeP.here _ | apply TakeP.there) (secCs_len ok.now) (Nat.le_refl _) (by have := ok.size; simp only [maxLen]; omega) (secCs_one _) (by intro i u h; simpa using h)) Try.runUnderlying57) rfl rfl ?_
    refine Ops.stG rfl rfl rfl (decide_eq_true h) (.lss rfl rfl) rfl rfl ?_
    refine Ops.st (.pickT rfl (decide_eq_true h) rfl) rfl rfl rfl ?_
    refine Ops.st (.assign rfl) rfl rfl rfl ?_
    refine Ops.nil ?_
    refine Ext.seq ?_
    exact Cod.ret (Ext.retE rfl rfl (Ent.fold (by repeat' first | exact Takes.nil _ | exact TakeP.here _ | apply TakeP.there | apply Takes.cons) (disk_mk hpv ok)) (⟨by simp [h], rfl⟩))
  ·
    refine Ops.skipG rfl rfl rfl (decide_eq_false h) rfl rfl ?_
    refine Ops.skipG rfl rfl rfl (decide_eq_false h) rfl rfl ?_
    refine Ops.skipG rfl rfl rfl (decide_eq_false h) rfl rfl ?_
    refine Ops.skipG rfl rfl rfl (decide_eq_false h) rfl rfl ?_
    refine Ops.skipG rfl rfl rfl (decide_eq_false h) rfl rfl ?_
    refine Ops.skipG rfl rfl rfl (decide_eq_false h) rfl rfl ?_
    refine Ops.skipG rfl rfl rfl (decide_eq_false h) rfl rfl ?_
    refine Ops.st (.pickF rfl (decide_eq_false h) rfl) rfl rfl rfl ?_
    refine Ops.st (.assign rfl) rfl rfl rfl ?_
    refine Ops.nil ?_
    refine Ext.seq ?_
    exact Cod.ret (Ext.retE rfl rfl (Ent.fold (by repeat' first | exact Takes.nil _ | exact TakeP.here _ | apply TakeP.there | apply Takes.cons) (disk_mk hpv ok)) (⟨by simp [h], rfl⟩))

theorem meet_any {F : Fr} {b : Nat} {D : DiskM} : Spec Try.prog F 27 [.pointer (some ⟨b, 0, none⟩)] [disk b D] (fun v hs' => v = .int .i64 D.meet.1 ∧ hs' = [disk b D.meet.2]) := by
  refine Spec.open_ (disk_open b D) ?_
  rintro ⟨nb, mr, pv⟩ ⟨hpv, ok⟩
  dsimp only [dI, List.cons_append, List.nil_append] at hpv ⊢
  refine Spec.body Try.func27 rfl Try.ntmps27 rfl ?_
  refine Cod.seq ?_
  refine Cod.region ?_
  refine Ops.st (.assign rfl) rfl rfl rfl ?_
  refine Ops.nil ?_
  refine Ext.seq ?_
  refine Cod.seq ?_
  refine Cod.seq ?_
  refine Cod.region ?_
  refine Ops.st (.move rfl) rfl rfl rfl ?_
  refine Ops.st (.nilCheck rfl) rfl rfl rfl ?_
  refine Ops.st (.fieldAddr rfl fa60_3) rfl rfl rfl ?_
  refine Ops.st (.loadP rfl (by repeat first | exact TakeP.here _ | apply TakeP.there) Try.isAgg4 rfl) rfl rfl rfl ?_
  refine Ops.nil ?_
  refine Ext.seq ?_
  refine Cod.cond rfl (fun h => ?_) (fun h => ?_)
  ·
    refine Cod.seq ?_
    refine Cod.region ?_
    refine Ops.st (.assign rfl) rfl rfl rfl ?_
    refine Ops.nil ?_
    refine Ext.seq ?_
    exact Cod.ret (Ext.seqR (Ext.retE rfl rfl (Ent.fold (by repeat' first | exact Takes.nil _ | exact TakeP.here _ | apply TakeP.there | apply Takes.cons) (disk_mk hpv ok)) (⟨by simp [DiskM.meet, h], by simp [DiskM.meet, h]⟩)))
  ·
    refine Cod.skip ?_
    refine Ext.seq ?_
    refine Cod.seq ?_
    refine Cod.seq ?_
    refine Cod.region ?_
    refine Ops.st (.move rfl) rfl rfl rfl ?_
    refine Ops.st (.nilCheck rfl) rfl rfl rfl ?_
    refine Ops.st (.fieldAddr rfl fa60_2) rfl rfl rfl ?_
    refine Ops.st (.loadP rfl (by repeat first | exact TakeP.here _ | apply TakeP.there) Try.isAgg22 rfl) rfl rfl rfl ?_
    refine Ops.st (.len rfl (by first | assumption | exact Rd.vec (by repeat first | exact TakeP.here _ | apply TakeP.there) | exact Rd.ro (by assumption)) Try.runUnderlying22) rfl rfl rfl ?_
    refine Ops.st (.eql rfl rfl) rfl rfl rfl ?_
    refine Ops.nil ?_
    refine Ext.seq ?_
    refine Cod.condD rfl (fun h2 => ?_) (fun h2 => ?_)
    ·
      refine Cod.seq ?_
      refine Cod.region ?_
      obtain hp : D.plan = [] := List.eq_nil_of_length_eq_zero (by omega)
      refine Ops.st (.assign rfl) rfl rfl rfl ?_
      refine Ops.nil ?_
      refine Ext.seq ?_
      exact Cod.ret (Ext.seqR (Ext.retE rfl rfl (Ent.fold (by repeat' first | exact Takes.nil _ | exact TakeP.here _ | apply TakeP.there | apply Takes.cons) (disk_mk hpv ok)) (⟨by simp [DiskM.meet, h, hp], by simp [DiskM.meet, h, hp]⟩)))
    ·
      refine Cod.skip ?_
      refine Ext.seq ?_
      refine Cod.seq ?_
      refine Cod.region ?_
      obtain ⟨c, r, hp⟩ : ∃ c r, D.plan = c :: r := by cases hp : D.plan with | nil => simp [hp] at h2 | cons c r => exact ⟨c, r, rfl⟩
      refine Ops.st (.move rfl) rfl rfl rfl ?_
      refine Ops.st (.nilCheck rfl) rfl rfl rfl ?_
      refine Ops.st (.fieldAddr rfl fa60_2) rfl rfl rfl ?_
      refine Ops.st (.loadP rfl (by repeat first | exact TakeP.here _ | apply TakeP.there) Try.isAgg22 rfl) rfl rfl rfl ?_
      refine Ops.st (.indexAddr (j := 0) rfl rfl (by first | assumption | exact Rd.vec (by repeat first | exact TakeP.here _ | apply TakeP.there) | exact Rd.ro (by assumption)) Try.runUnderlying22 Try.sizeOf5 rfl (by first | omega | decide) rfl) rfl rfl rfl ?_
      refine Ops.st (.load_elem rfl (by first | assumption | exact Rd.vec (by repeat first | exact TakeP.here _ | apply TakeP.there) | exact Rd.ro (by assumption)) Try.isAgg5 (u8s_get (bs := D.plan) (i := 0) (c := c) (by rw [hp]; rfl))) rfl rfl rfl ?_
      refine Ops.st (.assign rfl) rfl rfl rfl ?_
      refine Ops.nil ?_
      refine Ext.seq ?_
      refine Cod.seq ?_
      refine Cod.region ?_
      refine Ops.st (.move rfl) rfl rfl rfl ?_
      refine Ops.st (.move rfl) rfl rfl rfl ?_
      refine Ops.st (.nilCheck rfl) rfl rfl rfl ?_
      refine Ops.st (.fieldAddr rfl fa60_2) rfl rfl rfl ?_
      refine Ops.st (.loadP rfl (by repeat first | exact TakeP.here _ | apply TakeP.there) Try.isAgg22 rfl) rfl rfl rfl ?_
      refine Ops.st (.slice_l (lo := 1) rfl rfl (by first | assumption | exact Rd.vec (by repeat first | exact TakeP.here _ | apply TakeP.there) | exact Rd.ro (by assumption)) Try.runUnderlying22 Try.sizeOf5 rfl (by omega)) rfl rfl rfl ?_
      refine Ops.st (.nilCheck rfl) rfl rfl rfl ?_
      refine Ops.st (.fieldAddr rfl fa60_2) rfl rfl rfl ?_
      refine Ops.ent ((TakeP.ent (by repeat first | exact TakeP.here _ | apply TakeP.there)).trans (Ent.one fun _ z => vec_tail hp z)) ?_
      refine Ops.ef10 (.store rfl rfl (by repeat first | exact TakeP.here _ | apply TakeP.there) Try.sizeOf22 rfl hpv.cut.one (by simp only [Nat.zero_add, List.set_cons_zero, List.set_cons_succ]; rfl)) rfl rfl ?_
      refine Ops.nil ?_
      refine Ext.seq ?_
      refine Cod.seq ?_
      refine Cod.seq ?_
      refine Cod.region ?_
      refine Ops.st (.move rfl) rfl rfl rfl ?_
      refine Ops.nil ?_
      refine Ext.seq ?_
      refine Cod.block ?_
      refine Cod.seq ?_
      refine Cod.region ?_
      refine Ops.st (.eql rfl rfl) rfl rfl rfl ?_
      refine Ops.st (.assign rfl) rfl rfl rfl ?_
      refine Ops.nil ?_
      refine Ext.seq ?_
      refine Cod.condD rfl (fun h3 => ?_) (fun h3 => ?_)
      ·
        refine Cod.seq ?_
        refine Cod.region ?_
        refine Ops.st (.assign rfl) rfl rfl rfl ?_
        refine Ops.nil ?_
        refine Ext.seq ?_
        exact Cod.ret (Ext.blockR (Ext.seqR (Ext.retE rfl rfl (Ent.fold (A := disk b { D with plan := r }) (by repeat' first | exact Takes.nil _ | exact TakeP.here _ | apply TakeP.there | apply Takes.cons) (disk_mk (D := { D with plan := r }) hpv.cut ⟨ok.now, ok.dirty, ok.size⟩)) (⟨by simp [DiskM.meet, h, hp, u8_eq (k := 1) h3], by simp [DiskM.meet, h, hp, u8_eq (k := 1) h3]⟩))))
      ·
        refine Cod.seq ?_
        refine Cod.region ?_
        refine Ops.st (.eql rfl rfl) rfl rfl rfl ?_
        refine Ops.st (.assign rfl) rfl rfl rfl ?_
        refine Ops.nil ?_
        refine Ext.seq ?_
        refine Cod.condD rfl (fun h4 => ?_) (fun h4 => ?_)
        ·
          refine Cod.seq ?_
          refine Cod.region ?_
          refine Ops.st (.move rfl) rfl rfl rfl ?_
          refine Ops.st (.nilCheck rfl) rfl rfl rfl ?_
          refine Ops.st (.fieldAddr rfl fa60_3) rfl rfl rfl ?_
          refine Ops.ef10 (.store rfl rfl (by repeat first | exact TakeP.here _ | apply TakeP.there) Try.sizeOf4 rfl rfl (by simp only [Nat.zero_add, List.set_cons_zero, List.set_cons_succ]; rfl)) rfl rfl ?_
          refine Ops.nil ?_
          refine Ext.seq ?_
          refine Cod.seq ?_
          refine Cod.region ?_
          refine Ops.st (.assign rfl) rfl rfl rfl ?_
          refine Ops.nil ?_
          refine Ext.seq ?_
          exact Cod.ret (Ext.blockR (Ext.seqR (Ext.retE rfl rfl (Ent.fold (A := disk b { D with plan := r, off := true }) (by repeat' first | exact Takes.nil _ | exact TakeP.here _ | apply TakeP.there | apply Takes.cons) (disk_mk (D := { D with plan := r, off := true }) hpv.cut ⟨ok.now, ok.dirty, ok.size⟩)) (⟨by simp [DiskM.meet, h, hp, u8_eq (k := 2) h4], by simp [DiskM.meet, h, hp, u8_eq (k := 2) h4]⟩))))
        ·
          refine Cod.skip ?_
          refine Ext.block ?_
          refine Ext.seq ?_
          refine Cod.seq ?_
          refine Cod.region ?_
          refine Ops.st (.assign rfl) rfl rfl rfl ?_
          refine Ops.nil ?_
          refine Ext.seq ?_
          exact Cod.ret (Ext.retE rfl rfl (Ent.fold (A := disk b { D with plan := r }) (by repeat' first | exact Takes.nil _ | exact TakeP.here _ | apply TakeP.there | apply Takes.cons) (disk_mk (D := { D with plan := r }) hpv.cut ⟨ok.now, ok.dirty, ok.size⟩)) (⟨by simp [DiskM.meet, h, hp, u8_ne (d := 1) h3 rfl, u8_ne (d := 2) h4 rfl], by simp [DiskM.meet, h, hp, u8_ne (d := 1) h3 rfl, u8_ne (d := 2) h4 rfl]⟩))
end Go.Proofs.Ytjlgdbmeajdciaa
