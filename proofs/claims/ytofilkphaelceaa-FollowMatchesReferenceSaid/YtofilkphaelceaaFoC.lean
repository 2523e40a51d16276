/-
  Walks of the layer 'follow': the binary search, find, Order, Permitted.
-/
import Derived.Test.YtofilkphaelceaaFoB
set_option linter.unusedVariables false
namespace Go.Proofs.Ytofilkphaelceaa
open Go Go.RowKit Fo Sk Go.Sort

/-- the first index whose number is at least t -/
theorem idx_ex {l : List St} (h : VOk l) (t : Int) : ∃ K, K ≤ l.length ∧ (∀ (j : Nat) (hj : j < l.length), l[j].n < t ↔ j < K) := by
  refine ⟨l.findIdx (fun s => decide (t ≤ s.n)), List.findIdx_le_length, fun j hj => ?_⟩
  constructor
  · intro hlt
    rcases Nat.lt_or_ge j (l.findIdx fun s => decide (t ≤ s.n)) with h1 | h1
    · exact h1
    · exfalso
      have h2 : (l.findIdx fun s => decide (t ≤ s.n)) < l.length := by omega
      have h3 := List.findIdx_getElem (w := h2)
      have h4 := of_decide_eq_true h3
      rcases Nat.lt_or_ge (l.findIdx fun s => decide (t ≤ s.n)) j with h5 | h5
      · have := List.pairwise_iff_getElem.1 h.inc _ j h2 hj h5
        omega
      · have h6 : (l.findIdx fun s => decide (t ≤ s.n)) = j := by omega
        simp only [h6] at h4
        omega
  · intro hlt
    have := List.not_of_lt_findIdx hlt
    simpa using this
theorem find_at {l : List St} (h : VOk l) {t : Int} {K : Nat} (hK : K < l.length) (he : l[K].n = t) : findS l t = some l[K] := by
  rw [← he]; exact find_mem h hK
theorem find_not {l : List St} {t : Int} {K : Nat} (hk : ∀ (j : Nat) (hj : j < l.length), l[j].n < t ↔ j < K) (hn : ∀ (h : K < l.length), l[K].n ≠ t) (hinc : l.Pairwise (fun s t => s.n < t.n)) : findS l t = none := by
  unfold findS
  rw [List.find?_eq_none]
  intro s hs
  obtain ⟨j, hj, rfl⟩ := List.getElem_of_mem hs
  simp only [beq_iff_eq]
  intro he
  have h1 := hk j hj
  have hjK : ¬ (j < K) := fun hh => by have := h1.2 hh; omega
  rcases Nat.lt_or_ge K j with h2 | h2
  · have h3 := List.pairwise_iff_getElem.1 hinc K j (by omega) hj h2
    have h4 := (hk K (by omega)).1 (by omega)
    omega
  · have : K = j := by omega
    subst this
    exact hn hj he

set_option maxRecDepth 100000 in
set_option maxHeartbeats 4000000 in
theorem bsearch_any (ao : Option Addr) (n cap : Nat) (l : List St) (t : Int) (K : Nat) (v : Bool) (w : World) (hs : Sl w 2 cS ao n cap l) (hl200 : l.length ≤ 200) (hK : K ≤ l.length) (hk : ∀ (j : Nat) (hj : j < l.length), l[j].n < t ↔ j < K)
    (hv : v = true ↔ ∃ h : K < l.length, l[K].n = t) :
    Calls Try.prog 55 #[.slice ao n cap, .int .i64 t, .func (.func 56) #[] #[]] w (Ret w (.tuple #[.int .i64 K, .bool v])) := by
  obtain rfl := hs.len
  have hcap := hs.max
  have hle := hs.le
  unfold maxLen at hcap
  have HS := Lib.hid hs
  have HK := Lib.hid hk
  have HV := Lib.hid hv
  clear hs hk hv
  go_enter Try.func55, Try.ntmps55
  go_wp2_with fail
  go_loopw [9, 10] (fun i j wr => ∃ a b : Nat, i = .int .i64 a ∧ j = .int .i64 b ∧ a ≤ K ∧ K ≤ b ∧ b ≤ l.length ∧ Below w.heap.size w wr) (fun i j _ => (match i, j with | .int _ a, .int _ b => (b - a).toNat | _, _ => 0))
  case atStart => exact ⟨0, l.length, rfl, rfl, by omega, hK, Nat.le_refl _, Below.refl _ _⟩
  case round =>
    obtain ⟨a, b, rfl, rfl, haK, hKb, hbl, HB_wr⟩ := hrel
    by_cases hab : a < b
    · obtain ⟨h, hh⟩ : ∃ h : Nat, h = (a + b) / 2 := ⟨_, rfl⟩
      have h1a : a ≤ h := by omega
      have h1b : h < b := by omega
      have hhi : ((a : Int) + (b : Int)) / 2 = (h : Int) := by omega
      obtain ⟨b', off, rfl, hb, hrow⟩ := HS.out.get (i := h) (by omega)
      obtain ⟨e_0, e_1⟩ := ((hrow h (by omega)).below HB_wr hb).c2
      have HKH := Lib.hid (HK.out h (by omega))
      have HC := Lib.hid (find1_any (l[h]'(by omega)) t)
      clear hrow
      generalize (l[h]'(by omega)) = s at *
      obtain ⟨s0, s1, s2, s3, s4⟩ := s
      dsimp only at e_0 e_1 HKH HC
      have hai : (a : Int) < (b : Int) := by omega
      have hbi : (b : Int) ≤ 200 := by omega
      have hld : (h : Int) < (l.length : Int) := by omega
      by_cases hlt : s0 < t
      · have hkm := HKH.out.1 hlt
        rw [cmpI_lt hlt] at HC
        clear hlt hh
        go_wp2_with fail
        refine (HC.out _).mono ?_
        rintro e w2 ⟨rfl, hb2⟩
        have HB_w2 := after0 HB_wr hb2
        clear hb2
        go_wp2_with fail
        go_roundw
        case rel => exact ⟨h + 1, b, by go_num, rfl, by omega, by omega, by omega, HB_w2⟩
        case measure => simp; omega
      · have hkm : ¬ (h < K) := fun hh2 => hlt (HKH.out.2 hh2)
        rcases Int.lt_or_le t s0 with hg | hg
        · rw [cmpI_gt hg] at HC
          clear hlt hh
          go_wp2_with fail
          refine (HC.out _).mono ?_
          rintro e w2 ⟨rfl, hb2⟩
          have HB_w2 := after0 HB_wr hb2
          clear hb2
          go_wp2_with fail
          go_roundw
          case rel => exact ⟨a, h, rfl, by go_num, by omega, by omega, by omega, HB_w2⟩
          case measure => simp; omega
        · obtain rfl : s0 = t := by omega
          rw [cmpI_eq] at HC
          clear hlt hh
          go_wp2_with fail
          refine (HC.out _).mono ?_
          rintro e w2 ⟨rfl, hb2⟩
          have HB_w2 := after0 HB_wr hb2
          clear hb2
          go_wp2_with fail
          go_roundw
          case rel => exact ⟨a, h, rfl, by go_num, by omega, by omega, by omega, HB_w2⟩
          case measure => simp; omega
    · obtain rfl : a = K := by omega
      obtain rfl : b = a := by omega
      by_cases hKl : b < l.length
      · obtain ⟨b', off, rfl, hb, hrow⟩ := HS.out.get hKl
        obtain ⟨e_0, e_1⟩ := ((hrow b hKl).below HB_wr hb).c2
        have HC := Lib.hid (find1_any l[b] t)
        have HV2 := Lib.hid (show v = true ↔ l[b].n = t from HV.out.trans ⟨fun ⟨_, h⟩ => h, fun h => ⟨hKl, h⟩⟩)
        clear hrow
        generalize l[b] = s at *
        obtain ⟨s0, s1, s2, s3, s4⟩ := s
        dsimp only at e_0 e_1 HV2 HC
        have hkli : (b : Int) < (l.length : Int) := by omega
        by_cases he : s0 = t
        · have hvt := HV2.out.2 he
          subst he
          rw [cmpI_eq] at HC
          subst hvt
          go_wp2_with fail
          refine (HC.out _).mono ?_
          rintro e w2 ⟨rfl, hb2⟩
          have HB_w2 := after0 HB_wr hb2
          clear hb2
          go_wp2_with fail
          go_ret2
          exact ⟨rfl, HB_w2⟩
        · have hvt : v = false := by cases hv : v with
            | false => rfl
            | true => exact absurd (HV2.out.1 hv) he
          subst hvt
          have HC2 := Lib.hid (show ∃ x : Int, (x == 0) = false ∧ ∀ W, Calls Try.prog 56 #[eS ⟨s0, s1, s2, s3, s4⟩, .int .i64 t] W (Ret W (.int .i64 x)) from ⟨cmpI s0 t, by
            rcases Int.lt_or_gt_of_ne he with h | h
            · rw [cmpI_lt h]; rfl
            · rw [cmpI_gt h]; rfl, HC.out⟩)
          obtain ⟨x, hx0, hx⟩ := HC2.out
          have HC3 := Lib.hid hx
          clear hx HC2 HC he
          go_wp2_with fail
          refine (HC3.out _).mono ?_
          rintro e w2 ⟨rfl, hb2⟩
          have HB_w2 := after0 HB_wr hb2
          clear hb2
          go_wp2_with fail
          go_ret2
          exact ⟨rfl, HB_w2⟩
      · have hvt : v = false := by cases hv : v with
          | false => rfl
          | true => obtain ⟨h, _⟩ := HV.out.1 hv; exact absurd h hKl
        subst hvt
        have hkli : ¬ (b : Int) < (l.length : Int) := by omega
        have hkl2 : (l.length : Int) ≤ (b : Int) := by omega
        go_wp2_with fail
        go_ret2
        exact ⟨rfl, HB_wr⟩

/-- a found step, or zeros -/
def fS : Option St → Value
  | some s => eS s
  | none => .agg #[.int .i64 0, .slice none 0 0]

set_option maxRecDepth 100000 in
set_option maxHeartbeats 4000000 in
theorem find_any (ao : Option Addr) (n cap : Nat) (l : List St) (t : Int) (w : World) (hs : SlS w ao n cap l) (hok : VOk l) :
    Calls Try.prog 46 #[.slice ao n cap, .int .i64 t] w (Ret w (.tuple #[fS (findS l t), .bool (findS l t).isSome])) := by
  obtain rfl := hs.1.len
  have hcap := hs.1.max
  have hle := hs.1.le
  unfold maxLen at hcap
  have hl200 := hok.len
  obtain ⟨K, hK, hk⟩ := idx_ex hok t
  obtain ⟨W0, hW0, HB_W0, hZ, hr⟩ := boxes1 w [.int .i64 0, .slice none 0 0] 44
  have H_r := Lib.hid hr
  have HS := Lib.hid (hs.1.below HB_W0)
  clear hr hZ
  by_cases hf : ∃ h : K < l.length, l[K].n = t
  · have HBS := Lib.hid (bsearch_any ao l.length cap l t K true W0 HS.out hl200 hK hk (by simp only [true_iff]; exact hf))
    obtain ⟨hKl, he⟩ := hf
    have HP := Lib.hid (find_at hok hKl he)
    generalize findS l t = p at *
    have hKi : (K : Int) < (l.length : Int) := by omega
    obtain ⟨b', off, rfl, hb, hrow⟩ := HS.out.get hKl
    have HR := Lib.hid (hrow K hKl)
    have HLT := Lib.hid hb
    clear hrow hs hk he hb
    generalize l[K] = s at *
    obtain ⟨s0, s1, s2, s3, s4⟩ := s
    go_enter Try.func46, Try.ntmps46
    go_wp2_with fail
    refine HBS.out.mono ?_
    rintro e wa ⟨rfl, hb_wa⟩
    have HB_wa := after0 HB_W0 hb_wa
    replace H_r := Lib.hid (H_r.out.below hb_wa)
    obtain ⟨e_0, e_1⟩ := ((HR.out).below hb_wa HLT.out).c2
    clear hb_wa hW0
    have f1 := H_r.out.frozen
    obtain ⟨q_r_0, q_r_1⟩ := H_r.out.c2
    go_wp2_with fail
    obtain ⟨z0, z1⟩ := ((H_r.out.set 0 (.int .i64 s0)).set 1 (.slice s1 s2 s3)).c2
    refine bodyPost_ret (v := .tuple #[.agg #[.int .i64 s0, .slice s1 s2 s3], .bool true]) (by simp [results, Try.results46, go_sem, z0, z1]) rfl ?_
    exact ⟨by rw [HP.out]; rfl, (HB_wa.setCell (p := ⟨w.heap.size, 0, none⟩) (by simp) _).setCell (p := ⟨w.heap.size, 1, none⟩) (by simp) _⟩
  · have HBS := Lib.hid (bsearch_any ao l.length cap l t K false W0 HS.out hl200 hK hk (by simp only [Bool.false_eq_true, false_iff]; exact hf))
    have HP := Lib.hid (find_not hk (fun h he => hf ⟨h, he⟩) hok.inc)
    generalize findS l t = p at *
    clear hs hk hf
    go_enter Try.func46, Try.ntmps46
    go_wp2_with fail
    refine HBS.out.mono ?_
    rintro e wa ⟨rfl, hb_wa⟩
    have HB_wa := after0 HB_W0 hb_wa
    replace H_r := Lib.hid (H_r.out.below hb_wa)
    clear hb_wa hW0
    have f1 := H_r.out.frozen
    obtain ⟨q_r_0, q_r_1⟩ := H_r.out.c2
    go_wp2_with fail
    obtain ⟨z0, z1⟩ := ((H_r.out.set 0 (.int .i64 0)).set 1 (.slice none 0 0)).c2
    refine bodyPost_ret (v := .tuple #[.agg #[.int .i64 0, .slice none 0 0], .bool false]) (by simp [results, Try.results46, go_sem, z0, z1]) rfl ?_
    exact ⟨by rw [HP.out]; rfl, (HB_wa.setCell (p := ⟨w.heap.size, 0, none⟩) (by simp) _).setCell (p := ⟨w.heap.size, 1, none⟩) (by simp) _⟩
end Go.Proofs.Ytofilkphaelceaa
