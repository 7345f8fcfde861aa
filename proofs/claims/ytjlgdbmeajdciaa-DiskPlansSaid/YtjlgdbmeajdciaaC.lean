/- The disk: Read and Write. No condition. -/
import Derived.Test.YtjlgdbmeajdciaaB
namespace Go.Proofs.Ytjlgdbmeajdciaa
open Go

theorem secCs_get {l : List (List UInt8)} (h : ∀ s ∈ l, s.length = 128) {k : Nat} (hk : k < l.length) {i : Nat} {u : Value} (hu : (u8s l[k])[i]? = some u) : (secCs l)[k * 128 + i]? = some u := by
  induction l generalizing k with
  | nil => simp at hk
  | cons a l ih =>
    have ha := h a (by simp)
    have hi : i < 128 := by
      have := (List.getElem?_eq_some_iff.1 hu).1
      rw [u8s_len] at this
      have := h (a :: l)[k] (List.getElem_mem _)
      omega
    cases k with
    | zero =>
      simp only [secCs, List.flatMap_cons, Nat.zero_mul, Nat.zero_add]
      rw [List.getElem?_append_left (by rw [u8s_len]; omega)]
      exact hu
    | succ k =>
      simp only [secCs, List.flatMap_cons]
      rw [List.getElem?_append_right (by rw [u8s_len]; omega), u8s_len, ha]
      have := ih (fun s hs => h s (by simp [hs])) (k := k) (by simpa using hk) (by simpa using hu)
      rw [show (k + 1) * 128 + i - 128 = k * 128 + i by omega]
      exact this
theorem secCs_put {l : List (List UInt8)} (h : ∀ s ∈ l, s.length = 128) {k : Nat} (hk : k < l.length) {s : List UInt8} : (secCs l).take (k * 128) ++ u8s s ++ (secCs l).drop (k * 128 + 128) = secCs (l.set k s) := by
  induction l generalizing k with
  | nil => simp at hk
  | cons a l ih =>
    have ha := h a (by simp)
    cases k with
    | zero =>
      simp only [secCs, List.flatMap_cons, Nat.zero_mul, List.take_zero, List.nil_append, Nat.zero_add, List.set_cons_zero]
      rw [List.drop_append, List.drop_of_length_le (by rw [u8s_len, ha]; exact Nat.le_refl _), u8s_len, ha]
      rfl
    | succ k =>
      simp only [secCs, List.flatMap_cons, List.set_cons_succ]
      have ih' := ih (fun s hs => h s (by simp [hs])) (k := k) (by simpa using hk)
      simp only [secCs] at ih'
      rw [← ih', List.take_append, List.take_of_length_le (by rw [u8s_len, ha]; omega), u8s_len, ha, List.drop_append, List.drop_of_length_le (by rw [u8s_len, ha]; omega), u8s_len, ha, List.nil_append]
      rw [show (k + 1) * 128 - 128 = k * 128 by omega, show (k + 1) * 128 + 128 - 128 = k * 128 + 128 by omega]
      simp only [List.append_assoc]

def DiskM.has (D : DiskM) (k : Int) : Prop := 0 ≤ k ∧ k < D.now.length
instance (D : DiskM) (k : Int) : Decidable (D.has k) := inferInstanceAs (Decidable (_ ∧ _))

theorem read_any {F : Fr} {b : Nat} {k : Int} {D : DiskM} : Spec Try.prog F 12 [.pointer (some ⟨b, 0, none⟩), .int .i64 k] [disk b D] (fun v hs' =>
    (D.off = true ∧ v = .tuple #[.slice none 0 0, .int .i64 7] ∧ hs' = [disk b D]) ∨
    (D.off = false ∧ ¬ D.has k ∧ v = .tuple #[.slice none 0 0, .int .i64 1] ∧ hs' = [disk b D]) ∨
    (D.off = false ∧ D.has k ∧ ∃ s u, D.now[k.toNat]? = some s ∧ s.length = 128 ∧ v = .tuple #[u, .int .i64 0] ∧ Sl u ∧ hs' = [vec u 5 1 128 (u8s s), disk b D])) := by
  refine Spec.open_ (disk_open b D) ?_
  rintro ⟨nb, mr, pv⟩ ⟨hpv, ok⟩
  dsimp only [dI, List.cons_append, List.nil_append] at hpv ⊢
  refine Spec.body Try.func12 rfl Try.ntmps12 rfl ?_
  refine Cod.seq ?_
  refine Cod.region ?_
  refine Ops.st (.assign rfl) rfl rfl rfl ?_
  refine Ops.st (.assign rfl) rfl rfl rfl ?_
  refine Ops.nil ?_
  refine Ext.seq ?_
  refine Cod.seq ?_
  refine Cod.block ?_
  refine Cod.seq ?_
  refine Cod.region ?_
  refine Ops.st (.move rfl) rfl rfl rfl ?_
  refine Ops.st (.nilCheck rfl) rfl rfl rfl ?_
  refine Ops.st (.fieldAddr rfl fa60_3) rfl rfl rfl ?_
  refine Ops.st (.loadP rfl (by repeat first | exact TakeP.here _ | apply TakeP.there) Try.isAgg4 rfl) rfl rfl rfl ?_
  refine Ops.st (.assign rfl) rfl rfl rfl ?_
  refine Ops.nil ?_
  refine Ext.seq ?_
  refine Cod.cond rfl (fun h => ?_) (fun h => ?_)
  ·
    refine Cod.seq ?_
    refine Cod.region ?_
    refine Ops.st (.assign rfl) rfl rfl rfl ?_
    refine Ops.st (.assign rfl) rfl rfl rfl ?_
    refine Ops.nil ?_
    refine Ext.seq ?_
    exact Cod.ret (Ext.blockR (Ext.seqR (Ext.ret2E rfl rfl rfl (Ent.fold (by repeat' first | exact Takes.nil _ | exact TakeP.here _ | apply TakeP.there | apply Takes.cons) (disk_mk hpv ok)) ((Or.inl ⟨h, rfl, rfl⟩)))))
  ·
    refine Cod.seq ?_
    refine Cod.region ?_
    refine Ops.ent (hs' := [disk b D]) (Ent.fold (by repeat' first | exact Takes.nil _ | exact TakeP.here _ | apply TakeP.there | apply Takes.cons) (disk_mk hpv ok)) ?_
    refine Ops.st (.move rfl) rfl rfl rfl ?_
    refine Ops.st (.move rfl) rfl rfl rfl ?_
    refine Ops.call ⟨Try.call26⟩ rfl rfl rfl (by repeat' first | exact Takes.nil _ | exact TakeP.here _ | apply TakeP.there | apply Takes.cons) (fun F' hF => has_any) rfl rfl rfl ?_
    rintro _ _ ⟨rfl, rfl⟩
    refine Ops.st (.notB rfl) rfl rfl rfl ?_
    refine Ops.st (.assign rfl) rfl rfl rfl ?_
    refine Ops.nil ?_
    refine Ext.seq ?_
    refine Cod.cond rfl (fun h2 => ?_) (fun h2 => ?_)
    ·
      refine Cod.seq ?_
      refine Cod.region ?_
      refine Ops.st (.assign rfl) rfl rfl rfl ?_
      refine Ops.st (.assign rfl) rfl rfl rfl ?_
      refine Ops.nil ?_
      refine Ext.seq ?_
      exact Cod.ret (Ext.blockR (Ext.seqR (Ext.ret2 rfl rfl rfl (Or.inr (Or.inl ⟨h, by simp [DiskM.has]; simp at h2; omega, rfl, rfl⟩)))))
    ·
      refine Cod.skip ?_
      refine Ext.block ?_
      refine Ext.seq ?_
      refine Cod.seq ?_
      refine Cod.region ?_
      have h3 : D.has k := by simp at h2; exact h2
      refine Ops.open_ (.here _) (disk_open b D) ?_
      rintro ⟨nb, mr, pv⟩ ⟨hpv, ok⟩
      dsimp only [dI, List.cons_append, List.nil_append] at hpv ⊢
      obtain ⟨n, rfl⟩ : ∃ n : Nat, k = n := ⟨k.toNat, by have := h3.1; omega⟩
      have hn : n < D.now.length := by have := h3.2; omega
      have hs : (D.now[n]).length = 128 := ok.now _ (List.getElem_mem _)
      obtain ⟨s, hsn⟩ : ∃ s, s = D.now[n] := ⟨_, rfl⟩
      rw [← hsn] at hs
      refine Ops.st (.move rfl) rfl rfl rfl ?_
      refine Ops.st (.nilCheck rfl) rfl rfl rfl ?_
      refine Ops.st (.fieldAddr rfl fa60_0) rfl rfl rfl ?_
      refine Ops.st (.loadP rfl (by repeat first | exact TakeP.here _ | apply TakeP.there) Try.isAgg57 rfl) rfl rfl rfl ?_
      refine Ops.st (.move rfl) rfl rfl rfl ?_
      refine Ops.st (.indexAddrP (j := n) rfl rfl Try.runUnderlying57 Try.sizeOf62 rfl hn rfl) rfl rfl rfl ?_
      refine Ops.st (.sliceArr rfl Try.runUnderlying62 Try.sizeOf5) rfl rfl rfl ?_
      refine Ops.call ⟨Try.call28⟩ rfl rfl rfl (by repeat' first | exact Takes.nil _ | exact TakeP.here _ | apply TakeP.there | apply Takes.cons) (fun F' hF => clone_any (n := 128) (xs := u8s s) ((Rd.pt (b := nb) (o := 0 + n * 128) (sz := 1) (cs := secCs D.now) (xs := u8s s) (by repeat first | exact TakeP.here _ | apply TakeP.there) (by rw [u8s_len, hs]) (Nat.le_refl _) (by decide) (u8s_one _) (fun i u hu => by rw [Nat.zero_add]; subst hsn; exact secCs_get ok.now hn hu)).wider hF) (by decide)) rfl rfl rfl ?_
      rintro u _ rfl
      refine Ops.fact (vec_sl (by repeat first | exact TakeP.here _ | apply TakeP.there)) fun hu => ?_
      refine Ops.st (.assign rfl) rfl rfl rfl ?_
      refine Ops.st (.assign rfl) rfl rfl rfl ?_
      refine Ops.nil ?_
      refine Ext.seq ?_
      exact Cod.ret (Ext.ret2E rfl rfl rfl (Ent.cons (Ent.fold (by repeat' first | exact Takes.nil _ | exact TakeP.here _ | apply TakeP.there | apply Takes.cons) (disk_mk hpv ok))) ((Or.inr (Or.inr ⟨h, h3, s, u, by simp [hn, hsn], hs, rfl, hu, rfl⟩))))
end Go.Proofs.Ytjlgdbmeajdciaa
