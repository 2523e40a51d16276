/-
  The reference functions of chapter 10: Place, For.
-/
import Derived.Test.YtmnlkndbdcdngaaSymRA
namespace Sb
open Sk

/-- the place of a symbol, or -1 -/
def placeI (ms : List Mk) (s : Int) : Int := fIdx (fun m => m.sy == s) ms
theorem place_some {ms : List Mk} {s : Int} {m : Mk} (h : lookM ms s = some m) : ∃ i : Nat, ∃ h : i < ms.length, placeI ms s = (i : Int) ∧ ms[i] = m := by
  unfold lookM at h
  cases hf : ms.findIdx? (fun m => m.sy == s) with
  | none =>
    exfalso
    rw [List.findIdx?_eq_none_iff] at hf
    have := hf m (List.mem_of_find?_eq_some h)
    have h2 := List.find?_some h
    simp at this h2
    exact this h2
  | some i =>
    obtain ⟨hi, hp, hn⟩ := List.findIdx?_eq_some_iff_getElem.1 hf
    refine ⟨i, hi, fIdx_some hf, ?_⟩
    have h3 : ms.find? (fun m => decide (m.sy = s)) = some ms[i] := by
      rw [List.find?_eq_some_iff_getElem]
      refine ⟨by simpa using hp, i, hi, rfl, fun j hj => ?_⟩
      have := hn j hj
      simpa using this
    rw [h3] at h
    exact Option.some.inj h
theorem place_none {ms : List Mk} {s : Int} (h : lookM ms s = none) : placeI ms s = -1 := by
  refine fIdx_none (List.findIdx?_eq_none_iff.2 fun x hx => ?_)
  have := lookM_none h x hx
  simpa using this

/-- the reference's search for a translation: the best place so far -/
def forF (ms : List Mk) (m : Mk) : Nat → Int
  | 0 => -1
  | j + 1 => match ms[j]? with
    | none => forF ms m j
    | some x => if fitB m x && (decide (forF ms m j < 0) || decide (x.cl < (ms.getD (forF ms m j).toNat zeroM).cl)) then (j : Int) else forF ms m j
theorem forF_spec {ms : List Mk} (h : VOk ms) (m : Mk) : ∀ j, j ≤ ms.length →
    (forF ms m j = -1 ∧ ((ms.take j).filter (fitB m)).foldl better top = top) ∨ (∃ i : Nat, ∃ hi : i < ms.length, forF ms m j = (i : Int) ∧ i < j ∧ ms[i] = ((ms.take j).filter (fitB m)).foldl better top)
  | 0, _ => .inl ⟨rfl, by simp⟩
  | j + 1, hj => by
    have hjl : j < ms.length := by omega
    have ht : ms.take (j + 1) = ms.take j ++ [ms[j]] := by rw [List.take_add_one, List.getElem?_eq_getElem hjl]; rfl
    have hc := (okM_iff.1 (h.ok _ (List.getElem_mem hjl))).2.2.2.2.2
    rw [ht, List.filter_append, List.foldl_append]
    rcases forF_spec h m j (by omega) with ⟨h1, h2⟩ | ⟨i, hi, h1, h2, h3⟩
    · rw [h2]
      simp only [forF, List.getElem?_eq_getElem hjl, h1]
      cases hf : fitB m ms[j]
      · left; simp [hf]
      · right
        refine ⟨j, hjl, by simp, by omega, ?_⟩
        simp only [List.filter_cons, hf, if_true, List.filter_nil, List.foldl_cons, List.foldl_nil]
        unfold better
        rw [if_pos (by simp only [top]; omega)]
    · rw [← h3]
      have hg : (ms.getD (forF ms m j).toNat zeroM) = ms[i] := by rw [h1]; simp [List.getD, hi]
      simp only [forF, List.getElem?_eq_getElem hjl, hg]
      rw [h1]
      right
      cases hf : fitB m ms[j]
      · exact ⟨i, hi, by simp, by omega, by simp [hf]⟩
      · by_cases hlt : ms[j].cl < ms[i].cl
        · refine ⟨j, hjl, by simp [hlt], by omega, ?_⟩
          simp [hf, better, hlt]
        · refine ⟨i, hi, ?_, by omega, ?_⟩
          · simp [hlt]; omega
          · simp [hf, better, hlt]
/-- the whole search -/
def forI (ms : List Mk) (m : Mk) : Int := forF ms m ms.length
theorem forI_lost {ms : List Mk} (h : VOk ms) {m : Mk} (hf : found (trans ms m) = false) : forI ms m = -1 := by
  rcases forF_spec h m ms.length (Nat.le_refl _) with ⟨h1, _⟩ | ⟨i, hi, _, _, h2⟩
  · exact h1
  · exfalso
    rw [List.take_length] at h2
    have h3 : trans ms m = ms[i] := h2.symm
    rw [h3] at hf
    have := (okM_iff.1 (h.ok _ (List.getElem_mem hi))).2.2.2.2.2
    simp [found] at hf
    omega
theorem forI_found {ms : List Mk} (h : VOk ms) {m : Mk} (hf : found (trans ms m) = true) : ∃ i : Nat, ∃ hi : i < ms.length, forI ms m = (i : Int) ∧ ms[i] = trans ms m := by
  rcases forF_spec h m ms.length (Nat.le_refl _) with ⟨_, h1⟩ | ⟨i, hi, h1, _, h2⟩
  · exfalso
    rw [List.take_length] at h1
    have h3 : trans ms m = top := h1
    rw [h3] at hf
    cases hf
  · rw [List.take_length] at h2
    exact ⟨i, hi, h1, h2⟩
end Sb
namespace Go.Proofs.Ytmnlkndbdcdngaa
open Go.RowKit Sb Sk Go.Sort
set_option linter.unusedVariables false

set_option maxRecDepth 100000 in
set_option maxHeartbeats 4000000 in
theorem rplace_any (of : Int) (ao : Option Addr) (n cap : Nat) (ms : List Mk) (s : Int) (w : World) (hs : Sl w 3 cM ao n cap ms) :
    Calls Try.prog 33 #[.agg #[.int .i64 of, .slice ao n cap], .int .i64 s] w (Ret w (.int .i64 (placeI ms s))) := by
  obtain rfl := hs.len
  have hcap := hs.max
  have hle := hs.le
  unfold maxLen at hcap
  obtain ⟨W0, hW0, HB_W0, hZ, hn⟩ := boxes1 w [.int .i64 of, .slice ao ms.length cap] 24
  have H_n := Lib.hid hn
  have HS := Lib.hid (hs.below HB_W0)
  clear hn hs hZ
  obtain ⟨q_n_0, q_n_1⟩ := H_n.out.c2
  go_enter Try.func33, Try.ntmps33
  go_wp2_with fail
  go_loopw [5] (fun i wr => ∃ j : Nat, j ≤ ms.length ∧ i = .int .i64 j ∧ Below W0.heap.size W0 wr ∧ Hid (∀ k (h : k < ms.length), k < j → ms[k].sy ≠ s)) (fun i _ => ms.length - (intOf i).toNat)
  case atStart => exact ⟨0, by omega, rfl, Below.refl _ _, fun _ _ h => absurd h (Nat.not_lt_zero _)⟩
  case round =>
    obtain ⟨j, hj, rfl, HB_wr, HV⟩ := hrel
    have H_nr := Lib.hid (H_n.out.below HB_wr)
    clear q_n_0 q_n_1
    obtain ⟨q_n_0, q_n_1⟩ := H_nr.out.c2
    by_cases hjl : j < ms.length
    case neg =>
      have HT : Hid (placeI ms s = -1) := by
        show _ = _
        refine fIdx_none (List.findIdx?_eq_none_iff.2 fun x hx => ?_)
        obtain ⟨k, hk, rfl⟩ := List.getElem_of_mem hx
        have := HV.out k hk (by omega)
        simpa using this
      clear HV
      go_wp2_with fail
      go_ret
      exact ⟨by rw [HT.out]; rfl, after0 HB_W0 HB_wr⟩
    obtain ⟨bb, off, rfl, hbb, hrow⟩ := HS.out.get hjl
    obtain ⟨e_0, e_1, e_2⟩ := ((hrow j hjl).below HB_wr hbb).c3
    clear hrow
    by_cases hq : ms[j].sy = s
    · have HT : Hid (placeI ms s = (j : Int)) := by
        show _ = _
        refine fIdx_some (List.findIdx?_eq_some_iff_getElem.2 ⟨hjl, by simpa using hq, fun k hk => ?_⟩)
        have := HV.out k (by omega) hk
        simpa using this
      rw [hq] at e_0
      clear HV hq
      go_wp2_with fail
      go_ret
      exact ⟨by rw [HT.out]; rfl, after0 HB_W0 HB_wr⟩
    · have HX : Hid (∀ k (h : k < ms.length), k < j + 1 → ms[k].sy ≠ s) := fun k h1 h2 => by
        rcases Nat.lt_succ_iff_lt_or_eq.1 h2 with h3 | rfl
        · exact HV.out k h1 h3
        · exact hq
      have hq2 : (ms[j].sy == s) = false := beq_eq_false_iff_ne.2 hq
      clear HV
      generalize ms[j].sy = u at *
      go_wp2_with fail
      go_roundw
      case rel => exact ⟨j + 1, by omega, by go_num, HB_wr, HX⟩
      case measure => simp [intOf]; omega
end Go.Proofs.Ytmnlkndbdcdngaa
