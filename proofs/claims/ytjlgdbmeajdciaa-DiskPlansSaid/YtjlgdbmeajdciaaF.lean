/- The disk's laws: awake, DiskNews, DiskApart. No condition. -/
import Derived.Test.YtjlgdbmeajdciaaE
namespace Go.Proofs.Ytjlgdbmeajdciaa
open Go

def DiskM.rdE (D : DiskM) (k : Int) : Int := if D.off then 7 else if D.has k then 0 else 1
def DiskM.rd (D : DiskM) (k : Int) : List UInt8 := if D.off then [] else if D.has k then (D.now[k.toNat]?).getD [] else []
theorem read_uni {F : Fr} {b : Nat} {k : Int} {D : DiskM} : Spec Try.prog F 12 [.pointer (some ⟨b, 0, none⟩), .int .i64 k] [disk b D] (fun v hs' =>
    ∃ u, v = .tuple #[u, .int .i64 (D.rdE k)] ∧ Sl u ∧ hs' = [vec u 5 1 (D.rd k).length (u8s (D.rd k)), disk b D]) := by
  refine read_any.weak ?_
  rintro v hs' (⟨h, rfl, rfl⟩ | ⟨h, h2, rfl, rfl⟩ | ⟨h, h2, s, u, hs, hl, rfl, hu, rfl⟩)
  · exact ⟨_, Ent.vecNil (T := 5) (sz := 1), .slice none 0 0, by simp [DiskM.rdE, h], Sl.nil, by simp [DiskM.rd, h, u8s]⟩
  · exact ⟨_, Ent.vecNil (T := 5) (sz := 1), .slice none 0 0, by simp [DiskM.rdE, h, h2], Sl.nil, by simp [DiskM.rd, h, h2, u8s]⟩
  · have e : D.rd k = s := by simp [DiskM.rd, h, h2, hs]
    exact ⟨_, Ent.refl _, u, by simp [DiskM.rdE, h, h2], hu, by rw [e, hl]⟩

def D0 (n : Nat) : DiskM := ⟨List.replicate n (List.replicate 128 0), [], [], false⟩
theorem new_ok {F : Fr} {n : Nat} (h : 1 ≤ n ∧ n ≤ 4096) : Spec Try.prog F 10 [.int .i64 (n : Int)] [] (fun v hs' => ∃ b, v = .tuple #[.pointer (some ⟨b, 0, none⟩), .int .i64 0] ∧ hs' = [disk b (D0 n)]) := by
  refine new_any.weak ?_
  rintro v hs' (⟨h1, _⟩ | ⟨_, _, b, rfl, rfl⟩)
  · omega
  · exact ⟨_, Ent.refl _, b, rfl, rfl⟩

/-- A disk that has no plan, and its power. -/
def DiskM.calm (D : DiskM) : Prop := D.plan = [] ∧ D.off = false
theorem calm_new (n : Nat) : (D0 n).calm := ⟨rfl, rfl⟩
theorem write_calm {D : DiskM} (h : D.calm) (k : Int) (l : List UInt8) : D.write k l = if ¬ D.has k ∨ 128 < l.length then (1, D) else (0, D.put k l) := by
  obtain ⟨h1, h2⟩ := h
  have : D.meet = (0, D) := by simp [DiskM.meet, h1, h2]
  unfold DiskM.write
  rw [this]
  simp
theorem calm_write {D : DiskM} (h : D.calm) (k : Int) (l : List UInt8) : (D.write k l).2.calm := by
  rw [write_calm h]
  split <;> exact h
theorem has_write {D : DiskM} (h : D.calm) (k j : Int) (l : List UInt8) : (D.write k l).2.has j ↔ D.has j := by
  rw [write_calm h]
  split
  · exact Iff.rfl
  · simp [DiskM.has, DiskM.put]
theorem rd_len {D : DiskM} (ok : D.Ok) (h : D.calm) {k : Int} (hk : D.has k) : (D.rd k).length = 128 := by
  have hlt : k.toNat < D.now.length := by have := hk.1; have := hk.2; omega
  simp only [DiskM.rd, h.2, hk, if_true, List.getElem?_eq_getElem hlt, Option.getD_some]
  exact ok.now _ (List.getElem_mem _)
theorem rd_put_eq {D : DiskM} (h : D.calm) {k : Int} (hk : D.has k) (l : List UInt8) : (D.put k l).rd k = padS l := by
  have hlt : k.toNat < D.now.length := by have := hk.1; have := hk.2; omega
  have hh : (D.put k l).has k := by simpa [DiskM.has, DiskM.put] using hk
  have ho : (D.put k l).off = false := h.2
  simp only [DiskM.rd, ho, hh, if_true]
  simp [DiskM.put, hlt]
theorem rd_put_ne {D : DiskM} {k j : Int} (hk : D.has k) (hne : j ≠ k) (l : List UInt8) : (D.put k l).rd j = D.rd j := by
  have hh : (D.put k l).has j ↔ D.has j := by simp [DiskM.has, DiskM.put]
  have ho : (D.put k l).off = D.off := rfl
  by_cases hj : D.has j
  · have hne' : k.toNat ≠ j.toNat := by have := hk.1; have := hj.1; omega
    simp only [DiskM.rd, ho, hh.2 hj, hj, if_true]
    simp [DiskM.put, hne']
  · have hn : ¬ (D.put k l).has j := fun e => hj (hh.1 e)
    simp only [DiskM.rd, ho, hj, hn, if_false]

theorem Rd.cutB {F : Fr} {hs : List SP} {v : Value} {n lo hi : Nat} {bs : List UInt8} (h : Rd F hs v 1 n (u8s bs)) (h1 : lo ≤ hi) (h2 : hi ≤ n) : Rd F hs (Value.cut v lo hi 1) 1 (hi - lo) (u8s ((bs.drop lo).take (hi - lo))) := by
  have := h.cut h1 h2
  rwa [Nat.mul_one, Nat.mul_one, u8s_drop, u8s_take] at this
theorem disk_ok {F : Fr} {b : Nat} {D : DiskM} {hs r : List SP} (hk : TakeP (disk b D) hs r) : ∀ w, Sat F hs w → D.Ok := fun _ s => by
  obtain ⟨z, ⟨x, ⟨_, ok⟩, _⟩, _⟩ := SL_head hk s.both
  exact ok

theorem awake_any {F : Fr} : Spec Try.prog F 9 [] [] (fun v hs' => v = .bool true ∧ hs' = []) := by
  refine Spec.body Try.func9 rfl Try.ntmps9 rfl ?_
  refine Cod.seq ?_
  refine Cod.region ?_
  refine Ops.st (.assign rfl) rfl rfl rfl ?_
  refine Ops.nil ?_
  refine Ext.seq ?_
  refine Cod.seq ?_
  refine Cod.region ?_
  refine Ops.call ⟨Try.call10⟩ rfl rfl rfl (by repeat' first | exact Takes.nil _ | exact TakeP.here _ | apply TakeP.there | apply Takes.cons) (fun F' hF => new_ok (n := 2) (by decide)) rfl rfl rfl ?_
  rintro _ _ ⟨b, rfl, rfl⟩
  refine Ops.st (.move rfl) rfl rfl rfl ?_
  refine Ops.st (.extract rfl rfl) rfl rfl rfl ?_
  refine Ops.st (.extract rfl rfl) rfl rfl rfl ?_
  refine Ops.st (.assign rfl) rfl rfl rfl ?_
  refine Ops.st (.assign rfl) rfl rfl rfl ?_
  refine Ops.nil ?_
  refine Ext.seq ?_
  refine Cod.seq ?_
  refine Cod.seq ?_
  refine Cod.region ?_
  refine Ops.st (.move rfl) rfl rfl rfl ?_
  refine Ops.st (.neq rfl rfl) rfl rfl rfl ?_
  refine Ops.st (.move rfl) rfl rfl rfl ?_
  refine Ops.stG rfl rfl rfl rfl (.move rfl) rfl rfl ?_
  refine Ops.stG rfl rfl rfl rfl (.eqPN rfl rfl Try.underlying24) rfl rfl ?_
  refine Ops.st (.pickF rfl rfl rfl) rfl rfl rfl ?_
  refine Ops.nil ?_
  refine Ext.seq ?_
  refine Cod.condF rfl rfl ?_
  refine Cod.skip ?_
  refine Ext.seq ?_
  refine Cod.seq ?_
  refine Cod.region ?_
  refine Ops.st (.move rfl) rfl rfl rfl ?_
  refine Ops.ef (.lit1 ei22 rfl rfl rfl (by repeat' first | exact One.nil | apply One.cons rfl | (apply One.cons (Sl.one (by assumption))))) rfl rfl rfl ?_
  rintro u0 _ ⟨hu0, rfl⟩
  refine Ops.call ⟨Try.call11⟩ rfl rfl rfl (by repeat' first | exact Takes.nil _ | exact TakeP.here _ | apply TakeP.there | apply Takes.cons) (fun F' hF => write_any (k := 1) (l := [7]) ((Rd.vec (n := 1) (xs := u8s [7]) (by repeat first | exact TakeP.here _ | apply TakeP.there)).wider hF) (by decide)) rfl rfl rfl ?_
  rintro _ _ ⟨rfl, rfl⟩
  refine Ops.st (.assign rfl) rfl rfl rfl ?_
  refine Ops.nil ?_
  refine Ext.seq ?_
  refine Cod.seq ?_
  refine Cod.region ?_
  refine Ops.st (.move rfl) rfl rfl rfl ?_
  refine Ops.call ⟨Try.call12⟩ rfl rfl rfl (by repeat' first | exact Takes.nil _ | exact TakeP.here _ | apply TakeP.there | apply Takes.cons) (fun F' hF => read_uni) rfl rfl rfl ?_
  rintro _ _ ⟨u, rfl, hu, rfl⟩
  have hc := calm_new 2
  have hhas : (D0 2).has 1 := by decide
  have hw : (D0 2).write 1 [7] = (0, (D0 2).put 1 [7]) := by rw [write_calm hc, if_neg (by decide)]
  rw [hw]
  dsimp only
  rw [rd_put_eq hc hhas]
  refine Ops.st (.move rfl) rfl rfl rfl ?_
  refine Ops.st (.extract rfl rfl) rfl rfl rfl ?_
  refine Ops.st (.extract rfl rfl) rfl rfl rfl ?_
  refine Ops.st (.assign rfl) rfl rfl rfl ?_
  refine Ops.st (.assign rfl) rfl rfl rfl ?_
  refine Ops.nil ?_
  refine Ext.seq ?_
  refine Cod.seq ?_
  refine Cod.region ?_
  refine Ops.st (.move rfl) rfl rfl rfl ?_
  refine Ops.st (.eql rfl rfl) rfl rfl rfl ?_
  refine Ops.st (.move rfl) rfl rfl rfl ?_
  refine Ops.stG rfl rfl rfl rfl (.move rfl) rfl rfl ?_
  refine Ops.stG rfl rfl rfl rfl (.eql rfl rfl) rfl rfl ?_
  refine Ops.st (.pickT rfl rfl rfl) rfl rfl rfl ?_
  refine Ops.st (.move rfl) rfl rfl rfl ?_
  refine Ops.stG rfl rfl rfl rfl (.move rfl) rfl rfl ?_
  refine Ops.stG rfl rfl rfl rfl (.len rfl (by first | assumption | exact Rd.vec (by repeat first | exact TakeP.here _ | apply TakeP.there) | exact Rd.ro (by assumption)) Try.runUnderlying22) rfl rfl ?_
  refine Ops.stG rfl rfl rfl rfl (.eql rfl rfl) rfl rfl ?_
  refine Ops.st (.pickT rfl rfl rfl) rfl rfl rfl ?_
  refine Ops.st (.move rfl) rfl rfl rfl ?_
  refine Ops.stG rfl rfl rfl (by simp [padS]) (.move rfl) rfl rfl ?_
  refine Ops.stG rfl rfl rfl (by simp [padS]) (.indexAddr (j := 0) rfl rfl (by first | assumption | exact Rd.vec (by repeat first | exact TakeP.here _ | apply TakeP.there) | exact Rd.ro (by assumption)) Try.runUnderlying22 Try.sizeOf5 rfl (by simp [padS]) rfl) rfl rfl ?_
  refine Ops.stG rfl rfl rfl (by simp [padS]) (.load_elem rfl (by first | assumption | exact Rd.vec (by repeat first | exact TakeP.here _ | apply TakeP.there) | exact Rd.ro (by assumption)) Try.isAgg5 (u8s_get (bs := padS [7]) (i := 0) (c := 7) (by simp [padS]))) rfl rfl ?_
  refine Ops.stG rfl rfl rfl (by simp [padS]) (.eql rfl rfl) rfl rfl ?_
  refine Ops.st (.pickT rfl (by simp [padS]) rfl) rfl rfl rfl ?_
  refine Ops.st (.assign rfl) rfl rfl rfl ?_
  refine Ops.nil ?_
  refine Ext.seq ?_
  exact Cod.ret (Ext.retE rfl rfl (Ent.nil _) (⟨rfl, rfl⟩))

theorem refNew_none {F : Fr} {k : Int} : Spec Try.prog F 13 [.int .i64 k] [] (fun v hs' => hs' = [] ∧
    ((¬ (1 ≤ k ∧ k ≤ 4096) ∧ v = .tuple #[.pointer none, .int .i64 1]) ∨ (1 ≤ k ∧ k ≤ 4096 ∧ ∃ b, v = .tuple #[.pointer (some ⟨b, 0, none⟩), .int .i64 0]))) :=
  refNew_any.weak fun _ _ h => ⟨[], Ent.nil _, rfl, h⟩
theorem diskNews_any {F : Fr} {k : Int} : Spec Try.prog F 4 [.int .i64 k] [] (fun v _ => v = .bool true) := by
  by_cases hk : 1 ≤ k ∧ k ≤ 4096
  · obtain ⟨n, rfl⟩ : ∃ n : Nat, k = n := ⟨k.toNat, by omega⟩
    refine Spec.body Try.func4 rfl Try.ntmps4 rfl ?_
    refine Cod.seq ?_
    refine Cod.region ?_
    refine Ops.st (.assign rfl) rfl rfl rfl ?_
    refine Ops.nil ?_
    refine Ext.seq ?_
    refine Cod.seq ?_
    refine Cod.region ?_
    refine Ops.call ⟨Try.call9⟩ rfl rfl rfl (by repeat' first | exact Takes.nil _ | exact TakeP.here _ | apply TakeP.there | apply Takes.cons) (fun F' hF => awake_any) rfl rfl rfl ?_
    rintro _ _ ⟨rfl, rfl⟩
    refine Ops.st (.assign rfl) rfl rfl rfl ?_
    refine Ops.nil ?_
    refine Ext.seq ?_
    refine Cod.seq ?_
    refine Cod.region ?_
    refine Ops.st (.move rfl) rfl rfl rfl ?_
    refine Ops.call ⟨Try.call10⟩ rfl rfl rfl (by repeat' first | exact Takes.nil _ | exact TakeP.here _ | apply TakeP.there | apply Takes.cons) (fun F' hF => new_ok (n := n) (by omega)) rfl rfl rfl ?_
    rintro _ _ ⟨b, rfl, rfl⟩
    refine Ops.st (.move rfl) rfl rfl rfl ?_
    refine Ops.st (.extract rfl rfl) rfl rfl rfl ?_
    refine Ops.st (.extract rfl rfl) rfl rfl rfl ?_
    refine Ops.st (.assign rfl) rfl rfl rfl ?_
    refine Ops.st (.assign rfl) rfl rfl rfl ?_
    refine Ops.nil ?_
    refine Ext.seq ?_
    refine Cod.seq ?_
    refine Cod.region ?_
    refine Ops.st (.move rfl) rfl rfl rfl ?_
    refine Ops.call ⟨Try.call13⟩ rfl rfl rfl (by repeat' first | exact Takes.nil _ | exact TakeP.here _ | apply TakeP.there | apply Takes.cons) (fun F' hF => refNew_none) rfl rfl rfl ?_
    rintro v1 _ ⟨rfl, hq⟩
    obtain ⟨b1, rfl⟩ : ∃ b1, v1 = .tuple #[.pointer (some ⟨b1, 0, none⟩), .int .i64 0] := by rcases hq with ⟨h, _⟩ | ⟨_, _, h⟩; omega; exact h
    refine Ops.st (.move rfl) rfl rfl rfl ?_
    refine Ops.st (.extract rfl rfl) rfl rfl rfl ?_
    refine Ops.st (.extract rfl rfl) rfl rfl rfl ?_
    refine Ops.st (.assign rfl) rfl rfl rfl ?_
    refine Ops.st (.assign rfl) rfl rfl rfl ?_
    refine Ops.nil ?_
    refine Ext.seq ?_
    refine Cod.seq ?_
    refine Cod.region ?_
    refine Ops.st (.move rfl) rfl rfl rfl ?_
    refine Ops.st (.move rfl) rfl rfl rfl ?_
    refine Ops.stG rfl rfl rfl rfl (.move rfl) rfl rfl ?_
    refine Ops.stG rfl rfl rfl rfl (.move rfl) rfl rfl ?_
    refine Ops.stG rfl rfl rfl rfl (.eql rfl rfl) rfl rfl ?_
    refine Ops.st (.pickT rfl rfl rfl) rfl rfl rfl ?_
    refine Ops.st (.move rfl) rfl rfl rfl ?_
    refine Ops.stG rfl rfl rfl rfl (.move rfl) rfl rfl ?_
    refine Ops.stG rfl rfl rfl rfl (.nePN rfl rfl Try.underlying24) rfl rfl ?_
    refine Ops.stG rfl rfl rfl rfl (.move rfl) rfl rfl ?_
    refine Ops.stG rfl rfl rfl rfl (.eql rfl rfl) rfl rfl ?_
    refine Ops.stG rfl rfl rfl rfl (.eqB rfl rfl Try.underlying4) rfl rfl ?_
    refine Ops.st (.pickT rfl rfl rfl) rfl rfl rfl ?_
    refine Ops.st (.move rfl) rfl rfl rfl ?_
    refine Ops.stG rfl rfl rfl rfl (.move rfl) rfl rfl ?_
    refine Ops.stG rfl rfl rfl rfl (.eqPN rfl rfl Try.underlying24) rfl rfl ?_
    refine Ops.stG rfl rfl rfl rfl (.move rfl) rfl rfl ?_
    refine Ops.stG rfl rfl rfl rfl (.move rfl) rfl rfl ?_
    refine Ops.callG rfl rfl rfl rfl ⟨Try.call14⟩ rfl rfl rfl (by repeat' first | exact Takes.nil _ | exact TakeP.here _ | apply TakeP.there | apply Takes.cons) (fun F' hF => len_any) rfl rfl ?_
    rintro _ _ ⟨rfl, rfl⟩
    refine Ops.stG rfl rfl rfl rfl (.move rfl) rfl rfl ?_
    refine Ops.stG rfl rfl rfl rfl (.eql rfl rfl) rfl rfl ?_
    refine Ops.stG rfl rfl rfl rfl (.pickF rfl rfl rfl) rfl rfl ?_
    refine Ops.st (.pickT rfl rfl rfl) rfl rfl rfl ?_
    refine Ops.st (.assign rfl) rfl rfl rfl ?_
    refine Ops.nil ?_
    refine Ext.seq ?_
    exact Cod.ret (Ext.ret rfl rfl (by simp [D0]))
  ·
    refine Spec.body Try.func4 rfl Try.ntmps4 rfl ?_
    refine Cod.seq ?_
    refine Cod.region ?_
    refine Ops.st (.assign rfl) rfl rfl rfl ?_
    refine Ops.nil ?_
    refine Ext.seq ?_
    refine Cod.seq ?_
    refine Cod.region ?_
    refine Ops.call ⟨Try.call9⟩ rfl rfl rfl (by repeat' first | exact Takes.nil _ | exact TakeP.here _ | apply TakeP.there | apply Takes.cons) (fun F' hF => awake_any) rfl rfl rfl ?_
    rintro _ _ ⟨rfl, rfl⟩
    refine Ops.st (.assign rfl) rfl rfl rfl ?_
    refine Ops.nil ?_
    refine Ext.seq ?_
    refine Cod.seq ?_
    refine Cod.region ?_
    refine Ops.st (.move rfl) rfl rfl rfl ?_
    refine Ops.call ⟨Try.call10⟩ rfl rfl rfl (by repeat' first | exact Takes.nil _ | exact TakeP.here _ | apply TakeP.there | apply Takes.cons) (fun F' hF => new_any) rfl rfl rfl ?_
    rintro v0 hs1 hq0
    obtain ⟨rfl, rfl⟩ : v0 = .tuple #[.pointer none, .int .i64 1] ∧ hs1 = [] := by rcases hq0 with ⟨_, h, h'⟩ | ⟨h1, h2, _⟩; exact ⟨h, h'⟩; omega
    refine Ops.st (.move rfl) rfl rfl rfl ?_
    refine Ops.st (.extract rfl rfl) rfl rfl rfl ?_
    refine Ops.st (.extract rfl rfl) rfl rfl rfl ?_
    refine Ops.st (.assign rfl) rfl rfl rfl ?_
    refine Ops.st (.assign rfl) rfl rfl rfl ?_
    refine Ops.nil ?_
    refine Ext.seq ?_
    refine Cod.seq ?_
    refine Cod.region ?_
    refine Ops.st (.move rfl) rfl rfl rfl ?_
    refine Ops.call ⟨Try.call13⟩ rfl rfl rfl (by repeat' first | exact Takes.nil _ | exact TakeP.here _ | apply TakeP.there | apply Takes.cons) (fun F' hF => refNew_none) rfl rfl rfl ?_
    rintro v1 _ ⟨rfl, hq⟩
    obtain rfl : v1 = .tuple #[.pointer none, .int .i64 1] := by rcases hq with ⟨_, h⟩ | ⟨h1, h2, _⟩; exact h; omega
    refine Ops.st (.move rfl) rfl rfl rfl ?_
    refine Ops.st (.extract rfl rfl) rfl rfl rfl ?_
    refine Ops.st (.extract rfl rfl) rfl rfl rfl ?_
    refine Ops.st (.assign rfl) rfl rfl rfl ?_
    refine Ops.st (.assign rfl) rfl rfl rfl ?_
    refine Ops.nil ?_
    refine Ext.seq ?_
    refine Cod.seq ?_
    refine Cod.region ?_
    refine Ops.st (.move rfl) rfl rfl rfl ?_
    refine Ops.st (.move rfl) rfl rfl rfl ?_
    refine Ops.stG rfl rfl rfl rfl (.move rfl) rfl rfl ?_
    refine Ops.stG rfl rfl rfl rfl (.move rfl) rfl rfl ?_
    refine Ops.stG rfl rfl rfl rfl (.eql rfl rfl) rfl rfl ?_
    refine Ops.st (.pickT rfl rfl rfl) rfl rfl rfl ?_
    refine Ops.st (.move rfl) rfl rfl rfl ?_
    refine Ops.stG rfl rfl rfl rfl (.move rfl) rfl rfl ?_
    refine Ops.stG rfl rfl rfl rfl (.nePN rfl rfl Try.underlying24) rfl rfl ?_
    refine Ops.stG rfl rfl rfl rfl (.move rfl) rfl rfl ?_
    refine Ops.stG rfl rfl rfl rfl (.eql rfl rfl) rfl rfl ?_
    refine Ops.stG rfl rfl rfl rfl (.eqB rfl rfl Try.underlying4) rfl rfl ?_
    refine Ops.st (.pickT rfl rfl rfl) rfl rfl rfl ?_
    refine Ops.st (.move rfl) rfl rfl rfl ?_
    refine Ops.stG rfl rfl rfl rfl (.move rfl) rfl rfl ?_
    refine Ops.stG rfl rfl rfl rfl (.eqPN rfl rfl Try.underlying24) rfl rfl ?_
    refine Ops.stG rfl rfl rfl rfl (.move rfl) rfl rfl ?_
    refine Ops.skipG rfl rfl rfl rfl rfl rfl ?_
    refine Ops.skipG rfl rfl rfl rfl rfl rfl ?_
    refine Ops.skipG rfl rfl rfl rfl rfl rfl ?_
    refine Ops.skipG rfl rfl rfl rfl rfl rfl ?_
    refine Ops.stG rfl rfl rfl rfl (.pickT rfl rfl rfl) rfl rfl ?_
    refine Ops.st (.pickT rfl rfl rfl) rfl rfl rfl ?_
    refine Ops.st (.assign rfl) rfl rfl rfl ?_
    refine Ops.nil ?_
    refine Ext.seq ?_
    exact Cod.ret (Ext.ret rfl rfl rfl)

end Go.Proofs.Ytjlgdbmeajdciaa
