/-
  Walks of the layer 'symbol': BinarySearchFunc, find.
-/
import Derived.Deep.Cut
import Derived.Test.YtmnlkndbdcdngaaSymA
namespace Go.Proofs.Ytmnlkndbdcdngaa
open Go.RowKit Sb Sk Go.Sort
set_option linter.unusedVariables false

theorem enters_find1 : ∀ args w, (callFunc 40 args).run Try.prog w = .ok (.enter 40 args) w := enters_of Try.func40 (by kernel_rfl) rfl

/-- what the search returns -/
def Srch (ms : List Mk) (s : Int) (w : World) (e : Ending) (w' : World) : Prop :=
  ∃ (i : Nat) (q : Bool), e = .returned (.tuple #[.int .i64 i, .bool q]) ∧ Below w.heap.size w w' ∧ ((q = true ∧ ∃ h : i < ms.length, lookM ms s = some ms[i]) ∨ (q = false ∧ lookM ms s = none))

set_option maxRecDepth 100000 in
set_option maxHeartbeats 2000000 in
theorem bsearch_any (ao : Option Addr) (n cap : Nat) (ms : List Mk) (s : Int) (w : World) (hs : Sl w 3 cM ao n cap ms) (hv : VOk ms) :
    Calls Try.prog 39 #[.slice ao n cap, .int .i64 s, .func (.func 40) #[] #[]] w (Srch ms s w) := by
  obtain rfl := hs.len
  have hcap := hs.max
  have hle := hs.le
  have h100 := hv.len
  unfold maxLen at hcap
  have HS := Lib.hid hs
  have HV := Lib.hid hv
  clear hs hv
  go_enter Try.func39, Try.ntmps39
  go_wp2_with fail
  go_loopw [9, 10] (fun i j wr => ∃ a b : Nat, a ≤ b ∧ b ≤ ms.length ∧ i = .int .i64 a ∧ j = .int .i64 b ∧ Below w.heap.size w wr ∧ Hid (∀ x (h : x < ms.length), x < a → ms[x].sy < s) ∧ Hid (∀ x (h : x < ms.length), b ≤ x → s ≤ ms[x].sy)) (fun i j _ => (intOf j).toNat - (intOf i).toNat)
  case atStart => exact ⟨0, ms.length, by omega, by omega, rfl, rfl, Below.refl _ _, fun x _ h => absurd h (Nat.not_lt_zero _), fun x h h' => absurd h (by omega)⟩
  case round =>
    obtain ⟨a, b, hab, hbl, rfl, rfl, HB_wr, HLO, HHI⟩ := hrel
    by_cases hlt : a < b
    · have hh1 : (a + b) / 2 < b := by omega
      have hh2 : a ≤ (a + b) / 2 := by omega
      have hml : (a + b) / 2 < ms.length := by omega
      have HLO2 := Lib.hid (show ms[(a + b) / 2].sy < s → ∀ x (h : x < ms.length), x < (a + b) / 2 + 1 → ms[x].sy < s from fun h0 x h hx => by
        rcases Nat.lt_succ_iff_lt_or_eq.1 hx with h1 | rfl
        · have := List.pairwise_iff_getElem.1 HV.out.inc x _ h hml h1; omega
        · exact h0)
      have HHI2 := Lib.hid (show s ≤ ms[(a + b) / 2].sy → ∀ x (h : x < ms.length), (a + b) / 2 ≤ x → s ≤ ms[x].sy from fun h0 x h hx => by
        rcases Nat.lt_or_ge ((a + b) / 2) x with h1 | h1
        · have := List.pairwise_iff_getElem.1 HV.out.inc _ x hml h h1; omega
        · obtain rfl : x = (a + b) / 2 := by omega
          exact h0)
      obtain ⟨bb, off, rfl, hbb, hrow⟩ := HS.out.get hml
      obtain ⟨e0, e1, e2⟩ := ((hrow _ hml).below HB_wr hbb).c3
      clear hrow
      generalize ms[(a + b) / 2] = m at *
      obtain ⟨p, q, r⟩ := m
      dsimp only at e0 e1 e2 HLO2 HHI2
      go_wp2_with fail
      refine (find1_any p q r s _).mono ?_
      rintro e w2 ⟨rfl, hb_w2⟩
      have HB_w2 : Below w.heap.size w w2 := by first | exact after0 HB_wr hb_w2 | exact after1 HB_wr hb_w2 | exact after2 HB_wr hb_w2 | exact after3 HB_wr hb_w2 | exact after4 HB_wr hb_w2 | exact after5 HB_wr hb_w2
      rcases Int.lt_trichotomy p s with h | h | h
      · have hc : cmp3 p s = -1 := if_pos h
        have HL := Lib.hid (HLO2.out h)
        rw [hc]
        clear hc
        go_wp2_with fail
        go_roundw
        case rel => exact ⟨(a + b) / 2 + 1, b, by omega, hbl, by go_num, rfl, HB_w2, HL, HHI⟩
        case measure => simp [intOf]; omega
      · have hc : cmp3 p s = 0 := (if_neg (by omega)).trans (if_neg (by omega))
        have HL := Lib.hid (HHI2.out (by omega))
        rw [hc]
        clear hc
        go_wp2_with fail
        go_roundw
        case rel => exact ⟨a, (a + b) / 2, by omega, by omega, rfl, by go_num, HB_w2, HLO, HL⟩
        case measure => simp [intOf]; omega
      · have hc : cmp3 p s = 1 := (if_neg (by omega)).trans (if_pos h)
        have HL := Lib.hid (HHI2.out (by omega))
        rw [hc]
        clear hc
        go_wp2_with fail
        go_roundw
        case rel => exact ⟨a, (a + b) / 2, by omega, by omega, rfl, by go_num, HB_w2, HLO, HL⟩
        case measure => simp [intOf]; omega
    · obtain rfl : a = b := by omega
      by_cases hal : a < ms.length
      · have HG := Lib.hid (show ms[a].sy = s → lookM ms s = some ms[a] from fun h => by rw [← h]; exact lookM_mem HV.out (List.getElem_mem hal))
        have HN := Lib.hid (show ms[a].sy ≠ s → lookM ms s = none from fun h => by
          unfold lookM
          rw [List.find?_eq_none]
          intro x hx
          obtain ⟨j, hj, rfl⟩ := List.getElem_of_mem hx
          have : ms[j].sy ≠ s := by
            rcases Nat.lt_trichotomy j a with h1 | h1 | h1
            · have := HLO.out j hj h1; omega
            · subst h1; exact h
            · have h2 := HHI.out a hal (Nat.le_refl _)
              have := List.pairwise_iff_getElem.1 HV.out.inc a j hal hj h1; omega
          simpa using this)
        have HI := Lib.hid (HHI.out a hal (Nat.le_refl _))
        have HEX := Lib.hid (show ms[a] = ms[a] from rfl)
        obtain ⟨bb, off, rfl, hbb, hrow⟩ := HS.out.get hal
        obtain ⟨e0, e1, e2⟩ := ((hrow _ hal).below HB_wr hbb).c3
        clear hrow
        have HM : Hid (∀ q : Bool, (q = true → ms[a].sy = s) → (q = false → ms[a].sy ≠ s) → ((q = true ∧ ∃ h : a < ms.length, lookM ms s = some ms[a]) ∨ (q = false ∧ lookM ms s = none))) := fun q h1 h2 => by
          cases q
          · exact .inr ⟨rfl, HN.out (h2 rfl)⟩
          · exact .inl ⟨rfl, hal, HG.out (h1 rfl)⟩
        clear HG HN HEX
        generalize ms[a] = m at *
        obtain ⟨p, q, r⟩ := m
        dsimp only at e0 e1 e2
        have hps : s ≤ p := HI.out
        go_wp2_with fail
        refine (find1_any p q r s _).mono ?_
        rintro e w2 ⟨rfl, hb_w2⟩
        have HB_w2 : Below w.heap.size w w2 := by first | exact after0 HB_wr hb_w2 | exact after1 HB_wr hb_w2 | exact after2 HB_wr hb_w2 | exact after3 HB_wr hb_w2 | exact after4 HB_wr hb_w2 | exact after5 HB_wr hb_w2
        rcases Int.lt_or_le s p with h | h
        · have hc : cmp3 p s = 1 := (if_neg (by omega)).trans (if_pos h)
          rw [hc]
          clear hc
          go_wp2_with fail
          go_ret2
          exact ⟨a, false, rfl, HB_w2, HM.out false (by simp) (fun _ => by show p ≠ s; omega)⟩
        · have hc : cmp3 p s = 0 := (if_neg (by omega)).trans (if_neg (by omega))
          rw [hc]
          clear hc
          go_wp2_with fail
          go_ret2
          exact ⟨a, true, rfl, HB_w2, HM.out true (fun _ => by show p = s; omega) (by simp)⟩
      · have HN := Lib.hid (show lookM ms s = none from by
          unfold lookM
          rw [List.find?_eq_none]
          intro x hx
          obtain ⟨j, hj, rfl⟩ := List.getElem_of_mem hx
          have := HLO.out j hj (by omega)
          simp; omega)
        have hal' : ms.length ≤ a := by omega
        clear hal
        go_wp2_with fail
        go_ret2
        exact ⟨a, false, rfl, HB_wr, .inr ⟨rfl, HN.out⟩⟩

set_option maxRecDepth 100000 in
theorem find_any (of : Int) (ao : Option Addr) (n cap : Nat) (ms : List Mk) (s : Int) (w : World) (hs : Sl w 3 cM ao n cap ms) (hv : VOk ms) :
    Calls Try.prog 31 #[.agg #[.int .i64 of, .slice ao n cap], .int .i64 s] w (Ret w (.tuple #[eM ((lookM ms s).getD zeroM), .bool (lookM ms s).isSome])) := by
  obtain rfl := hs.len
  have hcap := hs.max
  have hle := hs.le
  unfold maxLen at hcap
  have HV := Lib.hid hv
  obtain ⟨W0, hW0, HB_W0, hZ, hn, hr⟩ := boxes2 w [.int .i64 of, .slice ao ms.length cap] [.int .i64 0, .int .i64 0, .int .i64 0] 24 29
  have H_n := Lib.hid hn
  have H_r := Lib.hid hr
  have HS := Lib.hid (hs.below HB_W0)
  clear hs hv hn hr hZ
  obtain ⟨q_n_0, q_n_1⟩ := H_n.out.c2
  go_enter Try.func31, Try.ntmps31
  go_wp2_with fail
  refine (bsearch_any _ _ _ ms s _ HS.out HV.out).mono ?_
  rintro e wa ⟨i, q, rfl, hb, hq⟩
  have HB_wa : Below w.heap.size w wa := after0 HB_W0 hb
  replace H_n := Lib.hid (H_n.out.below hb)
  replace H_r := Lib.hid (H_r.out.below hb)
  replace HS := Lib.hid (HS.out.below hb)
  clear hW0 hb q_n_0 q_n_1
  have f1 := H_r.out.frozen
  obtain ⟨q_n_0, q_n_1⟩ := H_n.out.c2
  obtain ⟨q_r_0, q_r_1, q_r_2⟩ := H_r.out.c3
  rcases hq with ⟨rfl, hil, hl⟩ | ⟨rfl, hl⟩
  · have HL := Lib.hid hl
    obtain ⟨bb, off, rfl, hbb, hrow⟩ := HS.out.get hil
    obtain ⟨e0, e1, e2⟩ := (hrow _ hil).c3
    clear hrow hl
    generalize ms[i] = m at *
    obtain ⟨x0, x1, x2⟩ := m
    dsimp only at e0 e1 e2
    go_wp2_with fail
    obtain ⟨s0, s1, s2⟩ := (((H_r.out.set 0 (.int .i64 x0)).set 1 (.int .i64 x1)).set 2 (.int .i64 x2)).c3
    refine bodyPost_ret (v := .tuple #[.agg #[.int .i64 x0, .int .i64 x1, .int .i64 x2], .bool true]) (by simp [results, Try.results31, go_sem, s0, s1, s2]) rfl ?_
    exact ⟨by rw [HL.out]; rfl, ((HB_wa.setCell (p := ⟨w.heap.size + 1, 0, none⟩) (by simp) _).setCell (p := ⟨w.heap.size + 1, 1, none⟩) (by simp) _).setCell (p := ⟨w.heap.size + 1, 2, none⟩) (by simp) _⟩
  · have HL := Lib.hid hl
    clear hl
    go_wp2_with fail
    obtain ⟨s0, s1, s2⟩ := (((H_r.out.set 0 (.int .i64 0)).set 1 (.int .i64 0)).set 2 (.int .i64 0)).c3
    refine bodyPost_ret (v := .tuple #[.agg #[.int .i64 0, .int .i64 0, .int .i64 0], .bool false]) (by simp [results, Try.results31, go_sem, s0, s1, s2]) rfl ?_
    exact ⟨by rw [HL.out]; rfl, ((HB_wa.setCell (p := ⟨w.heap.size + 1, 0, none⟩) (by simp) _).setCell (p := ⟨w.heap.size + 1, 1, none⟩) (by simp) _).setCell (p := ⟨w.heap.size + 1, 2, none⟩) (by simp) _⟩
end Go.Proofs.Ytmnlkndbdcdngaa
