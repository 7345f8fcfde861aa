/- The laws of records: what was put is told as it was, and the other way round; how many bytes there are. No condition. -/
import Derived.Test.YtacgngfjanlfnaaPA
namespace Go.Proofs.Ytacgngfjanlfnaa
open Go

theorem sub_nat {a b : UInt64} (h : b ≤ a) : (a - b).toNat = a.toNat - b.toNat := UInt64.toNat_sub_of_le _ _ h
theorem numD_put {mn mx : UInt64} (hm : mn ≤ mx) {x : Nat} (h1 : mn.toNat ≤ x) (h2 : x ≤ mx.toNat) (t : List UInt8) : numD mn mx (leB (x - mn.toNat) (wid (mx - mn).toNat) ++ t) = some (x, t) := by
  have hs := sub_nat hm
  have hlt : x - mn.toNat < 256 ^ wid (mx - mn).toNat := by
    have := wid_lt (n := (mx - mn).toNat) (mx - mn).toNat_lt
    omega
  have hl := leB_len (wid (mx - mn).toNat) (x - mn.toNat)
  have e1 : (leB (x - mn.toNat) (wid (mx - mn).toNat) ++ t).take (wid (mx - mn).toNat) = leB (x - mn.toNat) (wid (mx - mn).toNat) := by rw [List.take_append_of_le_length (by omega), List.take_of_length_le (by omega)]
  have e2 : (leB (x - mn.toNat) (wid (mx - mn).toNat) ++ t).drop (wid (mx - mn).toNat) = t := by rw [List.drop_append_of_le_length (by omega), List.drop_of_length_le (by omega), List.nil_append]
  simp only [numD, e1, e2, leN_leB _ _ hlt]
  rw [if_neg (by rw [List.length_append]; omega), if_neg (by omega), show x - mn.toNat + mn.toNat = x by omega]
theorem numD_some {mn mx : UInt64} (hm : mn ≤ mx) {bs r : List UInt8} {x : Nat} (h : numD mn mx bs = some (x, r)) : mn.toNat ≤ x ∧ x ≤ mx.toNat ∧ leB (x - mn.toNat) (wid (mx - mn).toNat) ++ r = bs := by
  have hs := sub_nat hm
  have hm' := UInt64.le_iff_toNat_le.1 hm
  simp only [numD] at h
  split at h
  · cases h
  · rename_i h1
    split at h
    · cases h
    · rename_i h2
      simp only [Option.some.injEq, Prod.mk.injEq] at h
      obtain ⟨rfl, rfl⟩ := h
      refine ⟨by omega, by omega, ?_⟩
      rw [Nat.add_sub_cancel]
      have hl : (bs.take (wid (mx - mn).toNat)).length = wid (mx - mn).toNat := by rw [List.length_take]; omega
      have := leB_leN (bs.take (wid (mx - mn).toNat))
      rw [hl] at this
      rw [this, List.take_append_drop]
theorem rep_put {α : Type} {p : List UInt8 → Option (α × List UInt8)} {q : α → List UInt8} : ∀ (l : List α) (t : List UInt8), (∀ r ∈ l, ∀ t, p (q r ++ t) = some (r, t)) → rep p l.length (l.flatMap q ++ t) = some (l, t)
  | [], t, _ => rfl
  | x :: l, t, h => by
    rw [List.length_cons, rep, List.flatMap_cons, List.append_assoc, h x (List.mem_cons_self ..)]
    simp only [rep_put l t fun r hr => h r (List.mem_cons_of_mem _ hr)]
theorem rep_some {α : Type} {p : List UInt8 → Option (α × List UInt8)} {q : α → List UInt8} {φ : α → Prop} (hp : ∀ bs x r, p bs = some (x, r) → φ x ∧ q x ++ r = bs) : ∀ (n : Nat) (bs : List UInt8) (l : List α) (r : List UInt8), rep p n bs = some (l, r) → l.length = n ∧ (∀ x ∈ l, φ x) ∧ l.flatMap q ++ r = bs
  | 0, bs, l, r, h => by
    simp only [rep, Option.some.injEq, Prod.mk.injEq] at h
    obtain ⟨rfl, rfl⟩ := h
    exact ⟨rfl, by simp, rfl⟩
  | n + 1, bs, l, r, h => by
    rw [rep] at h
    split at h
    · cases h
    · rename_i x r1 h1
      split at h
      · cases h
      · rename_i xs r2 h2
        simp only [Option.some.injEq, Prod.mk.injEq] at h
        obtain ⟨rfl, rfl⟩ := h
        obtain ⟨e1, e2, e3⟩ := rep_some hp n r1 xs r2 h2
        obtain ⟨e4, e5⟩ := hp _ _ _ h1
        refine ⟨by simp [e1], ?_, ?_⟩
        · intro y hy
          rcases List.mem_cons.1 hy with rfl | hy
          · exact e4
          · exact e2 y hy
        · rw [List.flatMap_cons, List.append_assoc, e3, e5]

theorem le_nat {a b : UInt64} : a ≤ b ↔ a.toNat ≤ b.toNat := UInt64.le_iff_toNat_le
mutual
theorem decF_put : ∀ (f : Fld) (v : Val) (t : List UInt8), okF f → fitF f v = true → decF f (putF f v ++ t) = some (v, t)
  | .mk k mn mx of, .mk n b l, t, ok, h => by
    rw [okF] at ok
    obtain ⟨hk, hm, hw, ho⟩ := ok
    rw [fitF] at h
    rw [putF, decF]
    split at h
    · rename_i h1
      simp only [Bool.and_eq_true, decide_eq_true_eq, List.isEmpty_iff] at h
      obtain ⟨rfl, rfl, h3, h4⟩ := h
      rw [if_pos h1, numD_put hm (le_nat.1 h3) (le_nat.1 h4)]
      simp only
      rw [if_neg (by omega), if_neg (by omega), UInt64.ofNat_toNat]
    · rename_i h1
      split at h
      · rename_i h2
        simp only [Bool.and_eq_true, decide_eq_true_eq, List.isEmpty_iff] at h
        obtain ⟨rfl, rfl, h3, h4⟩ := h
        rw [if_neg h1, if_pos h2, List.append_assoc, numD_put hm h3 h4]
        simp only
        rw [if_pos h2, if_neg (by rw [List.length_append]; omega), List.take_append_of_le_length (Nat.le_refl _), List.take_length, List.drop_append_of_le_length (Nat.le_refl _), List.drop_length, List.nil_append]
      · rename_i h2
        simp only [Bool.and_eq_true, decide_eq_true_eq] at h
        obtain ⟨rfl, rfl, ⟨h3, h4⟩, h5⟩ := h
        rw [if_neg h1, if_neg h2, List.append_assoc, numD_put hm h3 h4]
        simp only
        rw [if_neg h2, if_pos (by omega), rep_put l t fun r hr t => decR_put of r t ho (List.all_eq_true.1 h5 r hr)]
theorem decR_put : ∀ (fs : List Fld) (vs : List Val) (t : List UInt8), okL fs → fitR fs vs = true → decR fs (putR fs vs ++ t) = some (vs, t)
  | [], [], t, _, _ => by rw [putR, decR]; rfl; intro; intros; contradiction
  | f :: fs, v :: vs, t, ok, h => by
    rw [okL] at ok
    rw [fitR, Bool.and_eq_true] at h
    rw [putR, decR, List.append_assoc, decF_put f v _ ok.1 h.1]
    simp only [decR_put fs vs t ok.2 h.2]
  | [], _ :: _, _, _, h => by simp [fitR] at h
  | _ :: _, [], _, _, h => by simp [fitR] at h
end

mutual
theorem decF_some : ∀ (f : Fld) (bs : List UInt8) (v : Val) (r : List UInt8), okF f → decF f bs = some (v, r) → fitF f v = true ∧ putF f v ++ r = bs
  | .mk k mn mx of, bs, v, r, ok, h => by
    rw [okF] at ok
    obtain ⟨hk, hm, hw, ho⟩ := ok
    rw [decF] at h
    split at h
    · cases h
    · rename_i n r1 hn
      obtain ⟨h1, h2, h3⟩ := numD_some hm hn
      split at h
      · rename_i hk2
        split at h
        · cases h
        · rename_i hl
          simp only [Option.some.injEq, Prod.mk.injEq] at h
          obtain ⟨rfl, rfl⟩ := h
          have hlen : (r1.take n).length = n := by rw [List.length_take]; omega
          rw [fitF, putF, if_neg (by omega), if_pos hk2, if_neg (by omega), if_pos hk2, hlen]
          refine ⟨by simp [h1, h2], ?_⟩
          rw [List.append_assoc, List.take_append_drop, h3]
      · rename_i hk2
        split at h
        · rename_i hk3
          split at h
          · cases h
          · rename_i l r2 hl
            simp only [Option.some.injEq, Prod.mk.injEq] at h
            obtain ⟨rfl, rfl⟩ := h
            obtain ⟨e1, e2, e3⟩ := rep_some (q := fun r => putR of r) (φ := fun r => fitR of r = true) (fun bs x r hx => decR_some of bs x r ho hx) n r1 l r2 hl
            rw [fitF, putF, if_neg (by omega), if_neg hk2, if_neg (by omega), if_neg hk2, e1]
            refine ⟨?_, ?_⟩
            · simp only [Bool.and_eq_true, decide_eq_true_eq]
              exact ⟨trivial, trivial, ⟨h1, h2⟩, List.all_eq_true.2 e2⟩
            · rw [List.append_assoc, e3, h3]
        · rename_i hk3
          simp only [Option.some.injEq, Prod.mk.injEq] at h
          obtain ⟨rfl, rfl⟩ := h
          have hn2 : (UInt64.ofNat n).toNat = n := by have := mx.toNat_lt; rw [UInt64.toNat_ofNat']; omega
          have hk1 : k = 1 := by omega
          rw [fitF, putF, if_pos hk1, if_pos hk1, hn2]
          refine ⟨?_, h3⟩
          simp only [Bool.and_eq_true, decide_eq_true_eq, List.isEmpty_iff]
          exact ⟨trivial, trivial, le_nat.2 (by omega), le_nat.2 (by omega)⟩
theorem decR_some : ∀ (fs : List Fld) (bs : List UInt8) (vs : List Val) (r : List UInt8), okL fs → decR fs bs = some (vs, r) → fitR fs vs = true ∧ putR fs vs ++ r = bs
  | [], bs, vs, r, _, h => by
    simp only [decR, Option.some.injEq, Prod.mk.injEq] at h
    obtain ⟨rfl, rfl⟩ := h
    rw [fitR, putR]
    exact ⟨rfl, rfl⟩
    intro; intros; contradiction
  | f :: fs, bs, vs, r, ok, h => by
    rw [okL] at ok
    rw [decR] at h
    split at h
    · cases h
    · rename_i v r1 h1
      split at h
      · cases h
      · rename_i ws r2 h2
        simp only [Option.some.injEq, Prod.mk.injEq] at h
        obtain ⟨rfl, rfl⟩ := h
        obtain ⟨e1, e2⟩ := decF_some f bs v r1 ok.1 h1
        obtain ⟨e3, e4⟩ := decR_some fs r1 ws r2 ok.2 h2
        rw [fitR, putR, e1, e3, List.append_assoc, e4, e2]
        exact ⟨rfl, rfl⟩
end
theorem decR_more {fs : List Fld} {bs : List UInt8} {vs : List Val} {r : List UInt8} (ok : okL fs) (h : decR fs bs = some (vs, r)) (t : List UInt8) : decR fs (bs ++ t) = some (vs, r ++ t) := by
  obtain ⟨h1, h2⟩ := decR_some fs bs vs r ok h
  rw [← h2, List.append_assoc, decR_put fs vs _ ok h1]

/-! ### How many bytes -/
mutual
theorem mostF_ok : ∀ (d : Nat) (f : Fld) (n : Nat), mostF d f = some n → okF f
  | d, .mk k mn mx of, n, h => by
    rw [mostF] at h
    rw [okF]
    by_cases h1 : k = 1
    · simp only [h1, if_true] at h
      by_cases ho : of = []
      · subst ho
        simp only [if_true] at h
        split at h
        · cases h
        · rename_i hc
          exact ⟨.inl h1, by rw [le_nat]; have := mt (fun x => Or.inl (UInt64.lt_iff_toNat_lt.2 x)) hc; omega, fun hn => absurd h1 hn, by rw [okL]; trivial⟩
      · simp only [if_neg ho] at h; cases h
    · by_cases h2 : k = 2
      · subst h2
        simp only [if_neg (by decide : ¬ (2 : Int) = 1), if_true] at h
        by_cases ho : of = []
        · subst ho
          simp only [if_true] at h
          split at h
          · cases h
          · rename_i hc
            exact ⟨.inr (.inl rfl), by rw [le_nat]; have := mt (fun x => Or.inl (UInt64.lt_iff_toNat_lt.2 x)) hc; omega, fun _ => by have := mt (fun (x : mx.toNat > 65536) => Or.inr ⟨(by decide : (2 : Int) ≠ 1), x⟩) hc; omega, by rw [okL]; trivial⟩
        · simp only [if_neg ho] at h; cases h
      · by_cases h3 : k = 3
        · subst h3
          simp only [if_neg (by decide : ¬ (3 : Int) = 1), if_neg (by decide : ¬ (3 : Int) = 2), if_true] at h
          split at h
          · cases h
          · rename_i e he
            split at he
            · cases he
            · split at h
              · cases h
              · rename_i hc
                exact ⟨.inr (.inr rfl), by rw [le_nat]; have := mt (fun x => Or.inl (UInt64.lt_iff_toNat_lt.2 x)) hc; omega, fun _ => by have := mt (fun (x : mx.toNat > 65536) => Or.inr ⟨(by decide : (3 : Int) ≠ 1), x⟩) hc; omega, mostL_ok (d + 1) of 0 e he⟩
        · simp only [if_neg h1, if_neg h2, if_neg h3] at h; cases h
theorem mostL_ok : ∀ (d : Nat) (fs : List Fld) (s n : Nat), mostL d fs s = some n → okL fs
  | _, [], _, _, _ => by rw [okL]; trivial
  | d, f :: fs, s, n, h => by
    rw [mostL] at h
    rw [okL]
    split at h
    · cases h
    · rename_i m hm
      split at h
      · cases h
      · exact ⟨mostF_ok d f m hm, mostL_ok d fs _ n h⟩
end
theorem mostR_ok {d : Nat} {fs : List Fld} {n : Nat} (h : mostR d fs = some n) : okL fs := by
  rw [mostR] at h
  split at h
  · cases h
  · exact mostL_ok _ _ _ _ h
theorem mostL_le : ∀ (d : Nat) (fs : List Fld) (s n : Nat), mostL d fs s = some n → s ≤ n ∧ (s ≤ 1048576 → n ≤ 1048576)
  | _, [], s, n, h => by simp only [mostL, Option.some.injEq] at h; omega
  | d, f :: fs, s, n, h => by
    rw [mostL] at h
    split at h
    · cases h
    · split at h
      · cases h
      · have := mostL_le d fs _ n h; omega
theorem flat_len_le {α β : Type} {q : α → List β} {e : Nat} : ∀ {l : List α}, (∀ r ∈ l, (q r).length ≤ e) → (l.flatMap q).length ≤ l.length * e
  | [], _ => by simp
  | x :: l, h => by
    rw [List.flatMap_cons, List.length_append, List.length_cons, Nat.add_mul, Nat.one_mul]
    have h1 := h x (List.mem_cons_self ..)
    have h2 := flat_len_le fun r hr => h r (List.mem_cons_of_mem x hr)
    omega
mutual
theorem mostF_len : ∀ (d : Nat) (f : Fld) (v : Val) (n : Nat), mostF d f = some n → fitF f v = true → (putF f v).length ≤ n
  | d, .mk k mn mx of, .mk x b l, n, h, hf => by
    have ok := mostF_ok d _ n h
    rw [okF] at ok
    rw [mostF] at h
    rw [fitF] at hf
    rw [putF]
    by_cases h1 : k = 1
    · simp only [h1, if_true] at h ⊢
      rw [leB_len]
      split at h
      · cases h
      · split at h
        · cases h
        · simp only [Option.some.injEq] at h; omega
    · simp only [if_neg h1] at h hf ⊢
      by_cases h2 : k = 2
      · simp only [h2, if_true] at h hf ⊢
        simp only [Bool.and_eq_true, decide_eq_true_eq] at hf
        rw [List.length_append, leB_len]
        split at h
        · cases h
        · rename_i e he
          split at he
          · simp only [Option.some.injEq] at he
            split at h
            · cases h
            · simp only [Option.some.injEq] at h
              subst he
              have := hf.2.2.2
              have hn : (2 : Int) ≠ 1 := by decide
              rw [if_pos hn] at h
              omega
          · cases he
      · simp only [if_neg h2] at h hf ⊢
        simp only [Bool.and_eq_true, decide_eq_true_eq] at hf
        rw [List.length_append, leB_len]
        split at h
        · cases h
        · rename_i e he
          split at he
          · split at he
            · cases he
            · split at h
              · cases h
              · simp only [Option.some.injEq] at h
                have h4 := flat_len_le (q := fun r => putR of r) (e := e) (l := l) fun r hr => by
                  have := mostL_len (d + 1) of r 0 e he (List.all_eq_true.1 hf.2.2.2 r hr)
                  omega
                have h5 : l.length * e ≤ mx.toNat * e := Nat.mul_le_mul_right _ hf.2.2.1.2
                omega
          · cases he
theorem mostL_len : ∀ (d : Nat) (fs : List Fld) (vs : List Val) (s n : Nat), mostL d fs s = some n → fitR fs vs = true → s + (putR fs vs).length ≤ n
  | d, [], [], s, n, h, _ => by
    simp only [mostL, Option.some.injEq] at h
    rw [putR]
    · simp [h]
    · intro; intros; contradiction
  | d, f :: fs, v :: vs, s, n, h, hf => by
    rw [fitR, Bool.and_eq_true] at hf
    rw [mostL] at h
    rw [putR, List.length_append]
    split at h
    · cases h
    · rename_i m hm
      split at h
      · cases h
      · have h1 := mostF_len d f v m hm hf.1
        have h2 := mostL_len d fs vs _ n h hf.2
        omega
  | _, [], _ :: _, _, _, _, h => by simp [fitR] at h
  | _, _ :: _, [], _, _, _, h => by simp [fitR] at h
end
theorem mostR_len {d : Nat} {fs : List Fld} {vs : List Val} {n : Nat} (h : mostR d fs = some n) (hf : fitR fs vs = true) : (putR fs vs).length ≤ n := by
  rw [mostR] at h
  split at h
  · cases h
  · have := mostL_len d fs vs 0 n h hf; omega
end Go.Proofs.Ytacgngfjanlfnaa
