/-
  The reference functions of the layer 'follow', walked: Index, Valid, within.
-/
import Derived.Test.YtofilkphaelceaaFoTo
set_option linter.unusedVariables false
namespace Fo
open Go Sk
/-- the index of the step with a number, or -1 -/
def idxS (l : List St) (t : Int) : Int := fIdx (fun s => s.n == t) l
theorem idxS_hit {l : List St} {t : Int} {k : Nat} (hk : k < l.length) (h : l[k].n = t) (hn : ∀ j (h : j < l.length), j < k → l[j].n ≠ t) : idxS l t = k :=
  fIdx_hit hk (by simpa using h) (fun j hj hjk => by simpa using hn j hj hjk)
theorem idxS_miss {l : List St} {t : Int} (hn : ∀ j (h : j < l.length), l[j].n ≠ t) : idxS l t = -1 := fIdx_miss (fun j hj => by simpa using hn j hj)
theorem idxS_cases (l : List St) (t : Int) : (idxS l t = -1 ∧ findS l t = none) ∨ ∃ (k : Nat) (hk : k < l.length), idxS l t = k ∧ l[k].n = t ∧ findS l t = some l[k] := by
  cases h : findS l t with
  | none => exact .inl ⟨idxS_miss (fun j hj => find_none h _ (List.getElem_mem hj)), rfl⟩
  | some s =>
    unfold findS at h
    rw [List.find?_eq_some_iff_getElem] at h
    obtain ⟨h1, k, hk, rfl, h2⟩ := h
    have h1' : l[k].n = t := by simpa using h1
    exact .inr ⟨k, hk, idxS_hit hk h1' (fun j hj hjk => by have := h2 j hjk; simpa using this), h1', rfl⟩
def UpTo (l : List St) (s : St) (j : Nat) : Prop := ∀ k (h : k < s.af.length), k < j → (∀ m y, k = m + 1 → s.af[m]? = some y → y < s.af[k]) ∧ s.af[k] < s.n ∧ ∃ t ∈ l, t.n = s.af[k]
def GoodAt (l : List St) (k : Nat) (s : St) : Prop := isNum s.n = true ∧ (∀ j t, k = j + 1 → l[j]? = some t → t.n < s.n) ∧ UpTo l s s.af.length
theorem valid_good {l : List St} (h : l.length ≤ 200) (hg : ∀ k (h : k < l.length), GoodAt l k l[k]) : valid l = true := by
  have hinc : l.Pairwise (fun s t => s.n < t.n) := pair_adj (f := St.n) l fun i hi => (hg (i + 1) hi).2.1 i _ rfl (List.getElem?_eq_getElem (by omega))
  refine valid_iff.2 ⟨h, fun k hk => ?_⟩
  obtain ⟨h1, h2, h3⟩ := hg k hk
  refine okAt_iff.2 ⟨h1, ?_, risesB_iff.2 (pair_adj (f := fun x => x) _ fun i hi => (h3 (i + 1) hi hi).1 i _ rfl (List.getElem?_eq_getElem (by omega))), List.all_eq_true.2 fun a ha => ?_⟩
  · cases k with
    | zero => have := isNum_iff.1 h1; rw [lastN_zero]; omega
    | succ j => rw [lastN_succ (by omega)]; exact h2 j _ rfl (List.getElem?_eq_getElem (by omega))
  · obtain ⟨i, hi, rfl⟩ := List.getElem_of_mem ha
    obtain ⟨_, h5, t, ht, he⟩ := h3 i hi hi
    obtain ⟨j, hj, rfl⟩ := List.getElem_of_mem ht
    refine inN_take.2 ⟨j, hj, ?_, he⟩
    rcases Nat.lt_trichotomy j k with h6 | rfl | h6
    · exact h6
    · omega
    · have := List.pairwise_iff_getElem.1 hinc k j hk hj h6
      omega
theorem valid_bad {l : List St} {k : Nat} (hk : k < l.length) (h : isNum l[k].n = false ∨ (∃ j t, k = j + 1 ∧ l[j]? = some t ∧ l[k].n ≤ t.n) ∨ ∃ (m : Nat) (hm : m < l[k].af.length), (∃ j y, m = j + 1 ∧ l[k].af[j]? = some y ∧ l[k].af[m] ≤ y) ∨ l[k].n ≤ l[k].af[m] ∨ idxS l (l[k].af[m]) = -1) : valid l = false := by
  cases hv : valid l with
  | false => rfl
  | true =>
    have hok := vok hv
    exfalso
    rcases h with h | ⟨j, t, rfl, h1, h2⟩ | ⟨m, hm, h⟩
    · have := isNum_iff.2 (hok.num _ (List.getElem_mem hk))
      rw [this] at h; cases h
    · obtain ⟨hj, rfl⟩ := List.getElem?_eq_some_iff.1 h1
      have := List.pairwise_iff_getElem.1 hok.inc j (j + 1) hj hk (by omega)
      omega
    · obtain ⟨q, hq, hqk, he⟩ := hok.pre k hk _ (List.getElem_mem hm)
      rcases h with ⟨j, y, rfl, h1, h2⟩ | h | h
      · obtain ⟨hj, rfl⟩ := List.getElem?_eq_some_iff.1 h1
        have := List.pairwise_iff_getElem.1 (hok.ris _ (List.getElem_mem hk)) j (j + 1) hj hm (by omega)
        omega
      · have := List.pairwise_iff_getElem.1 hok.inc q k hq hk hqk
        omega
      · rcases idxS_cases l (l[k].af[m]) with ⟨_, h2⟩ | ⟨q, _, h2, _⟩
        · exact find_none h2 _ (List.getElem_mem hq) he
        · omega
theorem upTo_zero (l : List St) (s : St) : UpTo l s 0 := fun k _ h => absurd h (Nat.not_lt_zero _)
theorem upTo_succ {l : List St} {s : St} {m : Nat} (h : UpTo l s m) (hm : m < s.af.length) (h1 : ∀ j y, m = j + 1 → s.af[j]? = some y → y < s.af[m]) (h2 : s.af[m] < s.n) (h3 : ∃ t ∈ l, t.n = s.af[m]) : UpTo l s (m + 1) := fun k hk hkm => by
  rcases Nat.lt_succ_iff_lt_or_eq.1 hkm with h4 | rfl
  · exact h k hk h4
  · exact ⟨h1, h2, h3⟩
end Fo
namespace Go.Proofs.Ytofilkphaelceaa
open Go Go.RowKit Fo Sk Go.Sort

set_option maxRecDepth 100000 in
set_option maxHeartbeats 1000000 in
theorem rindex_any (ao : Option Addr) (n cap : Nat) (l : List St) (t : Int) (w : World) (hs : Sl w 2 cS ao n cap l) : Calls Try.prog 39 #[.slice ao n cap, .int .i64 t] w (Ret w (.int .i64 (idxS l t))) := by
  obtain rfl := hs.len
  have hcap := hs.max
  have hle := hs.le
  unfold maxLen at hcap
  have HS0 := Lib.hid hs
  have HB_w : Below w.heap.size w w := Below.refl _ _
  have HF := Lib.hid (@idxS_miss l t)
  have HT := Lib.hid (fun k => @idxS_hit l t k)
  clear hs
  generalize idxS l t = p at *
  go_enter Try.func39, Try.ntmps39
  go_wp2_with fail
  go_loopw [5] (fun i wr => ∃ j : Nat, j ≤ l.length ∧ i = .int .i64 j ∧ Below w.heap.size w wr ∧ Hid (∀ x (h : x < l.length), x < j → l[x].n ≠ t)) (fun i _ => l.length - (intOf i).toNat)
  case atStart => exact ⟨0, by omega, rfl, HB_w, fun x _ h => absurd h (Nat.not_lt_zero _)⟩
  case round =>
    obtain ⟨j, hj, rfl, HB_wr, HJ⟩ := hrel
    by_cases hlt : j < l.length
    · obtain ⟨b', off, rfl, hb, hrow⟩ := (HS0.out.below HB_wr).get hlt
      obtain ⟨e_0, e_1⟩ := (hrow j hlt).c2
      clear e_1
      by_cases hq : l[j].n = t
      · have HP := Lib.hid (HT.out j hlt hq HJ.out)
        clear hrow HJ HT
        generalize l[j] = s at *
        obtain ⟨s0, s1, s2, s3, s4⟩ := s
        dsimp only at e_0 hq
        subst hq
        go_wp2_with fail
        go_ret
        exact ⟨ret_int HP.out.symm, HB_wr⟩
      · have HN : Hid (∀ x (h : x < l.length), x < j + 1 → l[x].n ≠ t) := fun x h hx => by
          rcases Nat.lt_succ_iff_lt_or_eq.1 hx with h1 | rfl
          · exact HJ.out x h h1
          · exact hq
        clear hrow HJ
        generalize l[j] = s at *
        obtain ⟨s0, s1, s2, s3, s4⟩ := s
        dsimp only at e_0 hq
        have hq2 : (s0 == t) = false := beq_eq_false_iff_ne.2 hq
        clear hq
        go_wp2_with fail
        go_roundw
        case rel => exact ⟨j + 1, by omega, by go_num, HB_wr, HN⟩
        case measure => simp [intOf]; omega
    · have HP := Lib.hid (HF.out (fun x h => HJ.out x h (by omega)))
      clear HJ
      go_wp2_with fail
      go_ret
      exact ⟨ret_int HP.out.symm, HB_wr⟩

set_option maxRecDepth 100000 in
set_option maxHeartbeats 1000000 in
theorem rwithin_any (ao bo : Option Addr) (n cap m capb : Nat) (l k : List Int) (w : World) (hs : Sl w 1 cI ao n cap l) (ht : Sl w 1 cI bo m capb k) :
    Calls Try.prog 47 #[.slice ao n cap, .slice bo m capb] w (Ret w (.bool (l.all k.contains))) := by
  obtain rfl := hs.len
  obtain rfl := ht.len
  have hcap := hs.max
  have hle := hs.le
  unfold maxLen at hcap
  have HS0 := Lib.hid hs
  have HK0 := Lib.hid ht
  have HB_w : Below w.heap.size w w := Below.refl _ _
  have HF := Lib.hid (show ∀ x (h : x < l.length), k.contains l[x] = false → l.all k.contains = false from fun x h e => by
    cases hv : l.all k.contains with
    | false => rfl
    | true => rw [List.all_eq_true.1 hv _ (List.getElem_mem h)] at e; cases e)
  have HT := Lib.hid (show (∀ x (h : x < l.length), k.contains l[x] = true) → l.all k.contains = true from fun h => List.all_eq_true.2 fun a ha => by
    obtain ⟨x, hx, rfl⟩ := List.getElem_of_mem ha
    exact h x hx)
  clear hs ht
  generalize l.all k.contains = p at *
  go_enter Try.func47, Try.ntmps47
  go_wp2_with fail
  go_loopw [5] (fun i wr => ∃ j : Nat, j ≤ l.length ∧ i = .int .i64 j ∧ Below w.heap.size w wr ∧ Hid (∀ x (h : x < l.length), x < j → k.contains l[x] = true)) (fun i _ => l.length - (intOf i).toNat)
  case atStart => exact ⟨0, by omega, rfl, HB_w, fun x _ h => absurd h (Nat.not_lt_zero _)⟩
  case round =>
    obtain ⟨j, hj, rfl, HB_wr, HJ⟩ := hrel
    by_cases hlt : j < l.length
    · obtain ⟨b', off, rfl, hb, hrow⟩ := (HS0.out.below HB_wr).get hlt
      have e_0 := (hrow j hlt).c1
      rw [Nat.mul_one] at e_0
      have HX := Lib.hid (rhas_any _ _ _ k l[j] _ (HK0.out.below HB_wr))
      cases hq : k.contains l[j]
      · have HP := Lib.hid (HF.out j hlt hq)
        rw [hq] at HX
        clear hrow HJ HF HT hq
        generalize l[j] = s at *
        go_wp2_with fail
        refine (HX.out).mono ?_
        rintro e wa ⟨rfl, hb_wa⟩
        have HB_wa : Below w.heap.size w wa := by first | exact after0 HB_wr hb_wa | exact after1 HB_wr hb_wa | exact after2 HB_wr hb_wa | exact after3 HB_wr hb_wa | exact after4 HB_wr hb_wa | exact after5 HB_wr hb_wa
        go_wp2_with fail
        go_ret
        exact ⟨ret_bool' HP.out.symm, HB_wa⟩
      · have HN : Hid (∀ x (h : x < l.length), x < j + 1 → k.contains l[x] = true) := fun x h hx => by
          rcases Nat.lt_succ_iff_lt_or_eq.1 hx with h1 | rfl
          · exact HJ.out x h h1
          · exact hq
        rw [hq] at HX
        clear hrow HJ HF hq
        generalize l[j] = s at *
        go_wp2_with fail
        refine (HX.out).mono ?_
        rintro e wa ⟨rfl, hb_wa⟩
        have HB_wa : Below w.heap.size w wa := by first | exact after0 HB_wr hb_wa | exact after1 HB_wr hb_wa | exact after2 HB_wr hb_wa | exact after3 HB_wr hb_wa | exact after4 HB_wr hb_wa | exact after5 HB_wr hb_wa
        go_wp2_with fail
        go_roundw
        case rel => exact ⟨j + 1, by omega, by go_num, HB_wa, HN⟩
        case measure => simp [intOf]; omega
    · have HP := Lib.hid (HT.out (fun x h => HJ.out x h (by omega)))
      clear HJ
      go_wp2_with fail
      go_ret
      exact ⟨ret_bool' HP.out.symm, HB_wr⟩
end Go.Proofs.Ytofilkphaelceaa
