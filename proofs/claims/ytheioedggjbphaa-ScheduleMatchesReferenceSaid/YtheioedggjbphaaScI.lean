/-
  Walks of the layer 'schedule': valid jobs, slots, Plan; whether the slots of a plan rise, and whether it names pieces of jobs.
-/
import Derived.Test.YtheioedggjbphaaScG
set_option linter.unusedVariables false
namespace Sc
theorem validJ_eq (l : List Jb) : validJ l = (decide (l.length ≤ 100) && !l.any (fun a => !jobB a)) := by
  unfold validJ
  rw [List.any_eq_not_all_not, Bool.not_not]
  simp only [Bool.not_not]
end Sc
namespace Go.Proofs.Ytheioedggjbphaa
open Go Go.RowKit Sc Sk Go.Sort
theorem slot_any (n : Int) (w : World) : Calls Try.prog 36 #[.int .i64 n] w (Ret w (.bool (slotB n))) := by
  unfold slotB
  go_enter Try.func36, Try.ntmps36
  go_wp2
  all_goals
    go_ret
    exact ⟨ret_bool (by simp <;> omega), Below.refl _ _⟩
set_option maxRecDepth 100000 in
set_option maxHeartbeats 4000000 in
theorem valid_any (j : Jb) (w : World) : Calls Try.prog 34 #[eJ j] w (Ret w (.bool (jobB j))) := by
  obtain ⟨x0, x1, x2, x3⟩ := j
  have HN := Lib.hid (show ¬ (0 ≤ x0 ∧ x0 ≤ x1 ∧ x1 < 400 ∧ 1 ≤ x2 ∧ x2 ≤ 32 ∧ 0 ≤ x3 ∧ x3 ≤ 9) → jobB ⟨x0, x1, x2, x3⟩ = false from fun h => decide_eq_false h)
  have HY := Lib.hid (show (0 ≤ x0 ∧ x0 ≤ x1 ∧ x1 < 400 ∧ 1 ≤ x2 ∧ x2 ≤ 32 ∧ 0 ≤ x3 ∧ x3 ≤ 9) → jobB ⟨x0, x1, x2, x3⟩ = true from fun h => decide_eq_true h)
  generalize jobB ⟨x0, x1, x2, x3⟩ = p at *
  dsimp only [eJ]
  obtain ⟨W0, hW0, HB_W0, hZ, hn⟩ := boxes1 w [.int .i64 x0, .int .i64 x1, .int .i64 x2, .int .i64 x3] 44
  have H_n := Lib.hid hn
  clear hn hZ
  obtain ⟨q_n_0, q_n_1, q_n_2, q_n_3⟩ := H_n.out.c4
  go_enter Try.func34, Try.ntmps34
  by_cases c1 : 0 ≤ x0
  case neg =>
    have HP := Lib.hid (HN.out (fun h => c1 h.1))
    try replace c1 := Int.not_le.1 c1
    clear HN HY
    go_wp2_with fail
    all_goals try (exfalso; omega)
    all_goals
      go_ret
      exact ⟨ret_bool' (by first | exact HP.out.symm | (rw [HP.out]; exact decide_eq_false (by omega)) | (rw [HP.out]; exact decide_eq_true (by omega))), HB_W0⟩
  by_cases c2 : x0 ≤ x1
  case neg =>
    have HP := Lib.hid (HN.out (fun h => c2 h.2.1))
    replace c2 := Int.not_le.1 c2
    go_wp2_with fail
    all_goals try (exfalso; omega)
    all_goals
      go_ret
      exact ⟨ret_bool' (by first | exact HP.out.symm | (rw [HP.out]; exact decide_eq_false (by omega)) | (rw [HP.out]; exact decide_eq_true (by omega))), HB_W0⟩
  by_cases c3 : x1 < 400
  case neg =>
    have HP := Lib.hid (HN.out (fun h => c3 h.2.2.1))
    replace c3 := Int.not_lt.1 c3
    go_wp2_with fail
    all_goals try (exfalso; omega)
    all_goals
      go_ret
      exact ⟨ret_bool' (by first | exact HP.out.symm | (rw [HP.out]; exact decide_eq_false (by omega)) | (rw [HP.out]; exact decide_eq_true (by omega))), HB_W0⟩
  by_cases c4 : 1 ≤ x2
  case neg =>
    have HP := Lib.hid (HN.out (fun h => c4 h.2.2.2.1))
    replace c4 := Int.not_le.1 c4
    go_wp2_with fail
    all_goals try (exfalso; omega)
    all_goals
      go_ret
      exact ⟨ret_bool' (by first | exact HP.out.symm | (rw [HP.out]; exact decide_eq_false (by omega)) | (rw [HP.out]; exact decide_eq_true (by omega))), HB_W0⟩
  by_cases c5 : x2 ≤ 32
  case neg =>
    have HP := Lib.hid (HN.out (fun h => c5 h.2.2.2.2.1))
    replace c5 := Int.not_le.1 c5
    go_wp2_with fail
    all_goals try (exfalso; omega)
    all_goals
      go_ret
      exact ⟨ret_bool' (by first | exact HP.out.symm | (rw [HP.out]; exact decide_eq_false (by omega)) | (rw [HP.out]; exact decide_eq_true (by omega))), HB_W0⟩
  by_cases c6 : 0 ≤ x3
  case neg =>
    have HP := Lib.hid (HN.out (fun h => c6 h.2.2.2.2.2.1))
    replace c6 := Int.not_le.1 c6
    go_wp2_with fail
    all_goals try (exfalso; omega)
    all_goals
      go_ret
      exact ⟨ret_bool' (by first | exact HP.out.symm | (rw [HP.out]; exact decide_eq_false (by omega)) | (rw [HP.out]; exact decide_eq_true (by omega))), HB_W0⟩
  by_cases c7 : x3 ≤ 9
  case neg =>
    have HP := Lib.hid (HN.out (fun h => c7 h.2.2.2.2.2.2))
    replace c7 := Int.not_le.1 c7
    go_wp2_with fail
    all_goals try (exfalso; omega)
    all_goals
      go_ret
      exact ⟨ret_bool' (by first | exact HP.out.symm | (rw [HP.out]; exact decide_eq_false (by omega)) | (rw [HP.out]; exact decide_eq_true (by omega))), HB_W0⟩
  have HP := Lib.hid (HY.out ⟨c1, c2, c3, c4, c5, c6, c7⟩)
  go_wp2_with fail
  all_goals try (exfalso; omega)
  all_goals
    go_ret
    exact ⟨ret_bool' (by first | exact HP.out.symm | (rw [HP.out]; exact decide_eq_false (by omega)) | (rw [HP.out]; exact decide_eq_true (by omega))), HB_W0⟩
theorem valid1_any (a : Jb) (w : World) : Calls Try.prog 33 #[eJ a] w (Ret w (.bool (!jobB a))) := by
  have HV := Lib.hid (fun W => valid_any a W)
  generalize jobB a = p at *
  obtain ⟨a0, a1, a2, a3⟩ := a
  dsimp only [eJ] at HV ⊢
  have HB_w : Below w.heap.size w w := Below.refl _ _
  go_enter Try.func33, Try.ntmps33
  go_wp2_with fail
  refine (HV.out _).mono ?_
  rintro e wa ⟨rfl, hb_wa⟩
  have HB_wa : Below w.heap.size w wa := by first | exact after0 HB_w hb_wa | exact after1 HB_w hb_wa | exact after2 HB_w hb_wa | exact after3 HB_w hb_wa | exact after4 HB_w hb_wa | exact after5 HB_w hb_wa
  go_wp2_with fail
  go_ret
  exact ⟨rfl, HB_wa⟩

set_option maxRecDepth 100000 in
set_option maxHeartbeats 1000000 in
theorem jindex_any (ao : Option Addr) (n cap : Nat) (l : List Jb) (g : Nat) (lb : Array Value) (p : Jb → Bool) (w : World) (hs : Sl w 4 cJ ao n cap l) (hp : Asks Try.prog g lb eJ p l w)
    (eg : ∀ args w, (callFunc g args).run Try.prog w = .ok (.enter g args) w) :
    Calls Try.prog 53 #[.slice ao n cap, .func (.func g) #[] lb] w (Ret w (.int .i64 (fIdx p l))) := by
  obtain rfl := hs.len
  have hcap := hs.max
  have hle := hs.le
  unfold maxLen at hcap
  have HS : Hid (Sl w 4 cJ ao l.length cap l) := hs
  have HP : Hid (Asks Try.prog g lb eJ p l w) := hp
  clear hs hp
  go_enter Try.func53, Try.ntmps53
  go_wp2
  go_loopw [5, 8] (fun _ i wr => ∃ k : Nat, k ≤ l.length ∧ i = .int .i64 k ∧ Below w.heap.size w wr ∧ Hid (∀ j (h : j < l.length), j < k → p l[j] = false)) (fun _ i _ => l.length - (intOf i).toNat)
  case atStart => exact ⟨0, Nat.zero_le _, rfl, Below.refl _ _, fun j _ h => absurd h (Nat.not_lt_zero _)⟩
  case round =>
    obtain ⟨k, hk, rfl, hbel, HN⟩ := hrel
    by_cases hlt : k < l.length
    · obtain ⟨b, off, rfl, hb, hrow⟩ := HS.out.get hlt
      obtain ⟨h0, h1, h2, h3⟩ := ((hrow k hlt).below hbel hb).c4
      have hcall := HP.out wr l[k] hbel (List.getElem_mem hlt)
      clear hrow
      by_cases hpk : p l[k] = true
      · have HR : Hid (fIdx p l = k) := fIdx_hit hlt hpk HN.out
        go_wp2_with fail
        refine hcall.mono ?_
        rintro e w' ⟨rfl, hb2⟩
        clear hcall h0 h1 h2 h3
        go_wp2
        go_ret
        exact ⟨ret_int HR.out.symm, hbel.trans (hb2.mono hbel.size)⟩
      · have HR : Hid (∀ j (h : j < l.length), j < k + 1 → p l[j] = false) := fun j h hj => by
          by_cases hjk : j = k
          · subst hjk; simpa using hpk
          · exact HN.out j h (by omega)
        go_wp2_with fail
        refine hcall.mono ?_
        rintro e w' ⟨rfl, hb2⟩
        clear hcall h0 h1 h2 h3
        go_wp2
        go_roundw
        case rel => exact ⟨k + 1, by omega, by go_num, hbel.trans (hb2.mono hbel.size), HR⟩
        case measure => simp [intOf]; omega
    · have HR : Hid (fIdx p l = -1) := fIdx_miss fun j hj => HN.out j hj (by omega)
      go_wp2
      go_ret
      exact ⟨ret_int HR.out.symm, hbel⟩

theorem jcontains_any (ao : Option Addr) (n cap : Nat) (l : List Jb) (g : Nat) (lb : Array Value) (p : Jb → Bool) (w : World) (hs : Sl w 4 cJ ao n cap l) (hp : Asks Try.prog g lb eJ p l w)
    (eg : ∀ args w, (callFunc g args).run Try.prog w = .ok (.enter g args) w) :
    Calls Try.prog 32 #[.slice ao n cap, .func (.func g) #[] lb] w (Ret w (.bool (l.any p))) := by
  have hc := jindex_any ao n cap l g lb p w hs hp eg
  have HA : Hid (l.any p = true ↔ 0 ≤ fIdx p l) := any_fIdx
  clear hs hp
  generalize l.any p = q at *
  generalize fIdx p l = r at *
  go_enter Try.func32, Try.ntmps32
  go_wp2_with fail
  refine hc.mono ?_
  rintro e w' ⟨rfl, hb2⟩
  go_wp2
  go_ret
  exact ⟨ret_bool (by rw [HA.out]; simp), hb2⟩

set_option maxRecDepth 100000 in
set_option maxHeartbeats 1000000 in
theorem sindex_any (ao : Option Addr) (n cap : Nat) (l : List Sn) (g : Nat) (lb : Array Value) (p : Sn → Bool) (w : World) (hs : Sl w 3 cS ao n cap l) (hp : Asks Try.prog g lb eS p l w)
    (eg : ∀ args w, (callFunc g args).run Try.prog w = .ok (.enter g args) w) :
    Calls Try.prog 67 #[.slice ao n cap, .func (.func g) #[] lb] w (Ret w (.int .i64 (fIdx p l))) := by
  obtain rfl := hs.len
  have hcap := hs.max
  have hle := hs.le
  unfold maxLen at hcap
  have HS : Hid (Sl w 3 cS ao l.length cap l) := hs
  have HP : Hid (Asks Try.prog g lb eS p l w) := hp
  clear hs hp
  go_enter Try.func67, Try.ntmps67
  go_wp2
  go_loopw [5, 8] (fun _ i wr => ∃ k : Nat, k ≤ l.length ∧ i = .int .i64 k ∧ Below w.heap.size w wr ∧ Hid (∀ j (h : j < l.length), j < k → p l[j] = false)) (fun _ i _ => l.length - (intOf i).toNat)
  case atStart => exact ⟨0, Nat.zero_le _, rfl, Below.refl _ _, fun j _ h => absurd h (Nat.not_lt_zero _)⟩
  case round =>
    obtain ⟨k, hk, rfl, hbel, HN⟩ := hrel
    by_cases hlt : k < l.length
    · obtain ⟨b, off, rfl, hb, hrow⟩ := HS.out.get hlt
      obtain ⟨h0, h1, h2⟩ := ((hrow k hlt).below hbel hb).c3
      have hcall := HP.out wr l[k] hbel (List.getElem_mem hlt)
      clear hrow
      by_cases hpk : p l[k] = true
      · have HR : Hid (fIdx p l = k) := fIdx_hit hlt hpk HN.out
        go_wp2_with fail
        refine hcall.mono ?_
        rintro e w' ⟨rfl, hb2⟩
        clear hcall h0 h1 h2
        go_wp2
        go_ret
        exact ⟨ret_int HR.out.symm, hbel.trans (hb2.mono hbel.size)⟩
      · have HR : Hid (∀ j (h : j < l.length), j < k + 1 → p l[j] = false) := fun j h hj => by
          by_cases hjk : j = k
          · subst hjk; simpa using hpk
          · exact HN.out j h (by omega)
        go_wp2_with fail
        refine hcall.mono ?_
        rintro e w' ⟨rfl, hb2⟩
        clear hcall h0 h1 h2
        go_wp2
        go_roundw
        case rel => exact ⟨k + 1, by omega, by go_num, hbel.trans (hb2.mono hbel.size), HR⟩
        case measure => simp [intOf]; omega
    · have HR : Hid (fIdx p l = -1) := fIdx_miss fun j hj => HN.out j hj (by omega)
      go_wp2
      go_ret
      exact ⟨ret_int HR.out.symm, hbel⟩

theorem scontains_any (ao : Option Addr) (n cap : Nat) (l : List Sn) (g : Nat) (lb : Array Value) (p : Sn → Bool) (w : World) (hs : Sl w 3 cS ao n cap l) (hp : Asks Try.prog g lb eS p l w)
    (eg : ∀ args w, (callFunc g args).run Try.prog w = .ok (.enter g args) w) :
    Calls Try.prog 56 #[.slice ao n cap, .func (.func g) #[] lb] w (Ret w (.bool (l.any p))) := by
  have hc := sindex_any ao n cap l g lb p w hs hp eg
  have HA : Hid (l.any p = true ↔ 0 ≤ fIdx p l) := any_fIdx
  clear hs hp
  generalize l.any p = q at *
  generalize fIdx p l = r at *
  go_enter Try.func56, Try.ntmps56
  go_wp2_with fail
  refine hc.mono ?_
  rintro e w' ⟨rfl, hb2⟩
  go_wp2
  go_ret
  exact ⟨ret_bool (by rw [HA.out]; simp), hb2⟩

set_option maxRecDepth 100000 in
set_option maxHeartbeats 4000000 in
theorem Valid_any (ao : Option Addr) (n cap : Nat) (l : List Jb) (w : World) (hs : Sl w 4 cJ ao n cap l) : Calls Try.prog 13 #[.slice ao n cap] w (Ret w (.bool (validJ l))) := by
  obtain rfl := hs.len
  have hcap := hs.max
  have hle := hs.le
  unfold maxLen at hcap
  have HS := Lib.hid hs
  have HB_w : Below w.heap.size w w := Below.refl _ _
  have HE := Lib.hid (validJ_eq l)
  clear hs
  generalize validJ l = v at *
  go_enter Try.func13, Try.ntmps13
  by_cases h9 : 100 < l.length
  · have HP := Lib.hid (show v = false by rw [HE.out, show decide (l.length ≤ 100) = false from decide_eq_false (by omega)]; rfl)
    have h9i : 100 < (l.length : Int) := by omega
    go_wp2_with fail
    all_goals try (exfalso; omega)
    go_ret
    exact ⟨ret_bool' HP.out.symm, HB_w⟩
  have HE2 := Lib.hid (show v = !l.any (fun a => !jobB a) by rw [HE.out, show decide (l.length ≤ 100) = true from decide_eq_true (by omega)]; rfl)
  have h9i : (l.length : Int) ≤ 100 := by omega
  clear HE
  have HC := Lib.hid (jcontains_any _ _ _ l 33 #[] (fun a => !jobB a) w HS.out (fun W x _ _ => valid1_any x W) (fun args w => by kernel_rfl))
  generalize l.any (fun a => !jobB a) = u at *
  go_wp2_with fail
  all_goals try (exfalso; omega)
  refine (HC.out).mono ?_
  rintro e wa ⟨rfl, hb_wa⟩
  have HB_wa : Below w.heap.size w wa := by first | exact after0 HB_w hb_wa | exact after1 HB_w hb_wa | exact after2 HB_w hb_wa | exact after3 HB_w hb_wa | exact after4 HB_w hb_wa | exact after5 HB_w hb_wa
  go_wp2_with fail
  go_ret
  exact ⟨ret_bool' HE2.out.symm, HB_wa⟩
/-- a plan as it is returned -/
def SnsE (w : World) (p : List Sn × Int) (e : Ending) (w' : World) : Prop := ∃ v, e = .returned (.tuple #[v, .int .i64 p.2]) ∧ OwnL w' w.heap.size 46 3 cS v p.1 ∧ Below w.heap.size w w'
def IsE (w : World) (p : List Int × Int) (e : Ending) (w' : World) : Prop := ∃ v, e = .returned (.tuple #[v, .int .i64 p.2]) ∧ OwnL w' w.heap.size 3 1 cI v p.1 ∧ Below w.heap.size w w'
set_option maxRecDepth 100000 in
set_option maxHeartbeats 4000000 in
theorem Plan_any (ao : Option Addr) (n cap : Nat) (l : List Jb) (f : Int) (w : World) (hs : Sl w 4 cJ ao n cap l) : Calls Try.prog 15 #[.slice ao n cap, .int .i64 f] w (SnsE w (planR l f)) := by
  have HB_w : Below w.heap.size w w := Below.refl _ _
  have HV := Lib.hid (Valid_any ao n cap l w hs)
  have HS := Lib.hid hs
  have HSL := Lib.hid (fun W => slot_any f W)
  have HPL := Lib.hid (fun W hW h1 h2 => plan_any ao n cap l f W (hs.below hW) h1 h2)
  have HR := Lib.hid (show planR l f = if (validJ l && slotB f) = true then (planF l f, 0) else ([], 1) from rfl)
  generalize planR l f = r at *
  clear hs
  go_enter Try.func15, Try.ntmps15
  cases h1 : validJ l with
  | false =>
    rw [h1] at HV HR
    have HP := Lib.hid (show r = ([], 1) from HR.out)
    clear HR h1
    go_wp2_with fail
    all_goals try (exfalso; omega)
    refine (HV.out).mono ?_
    rintro e wa ⟨rfl, hb_wa⟩
    have HB_wa : Below w.heap.size w wa := by first | exact after0 HB_w hb_wa | exact after1 HB_w hb_wa | exact after2 HB_w hb_wa | exact after3 HB_w hb_wa | exact after4 HB_w hb_wa | exact after5 HB_w hb_wa
    go_wp2_with fail
    all_goals try (exfalso; omega)
    go_ret2
    exact ⟨.slice none 0 0, by rw [HP.out]; rfl, by rw [HP.out]; exact OwnL.nil, HB_wa⟩
  | true =>
    rw [h1] at HV HR
    go_wp2_with fail
    all_goals try (exfalso; omega)
    refine (HV.out).mono ?_
    rintro e wa ⟨rfl, hb_wa⟩
    have HB_wa : Below w.heap.size w wa := by first | exact after0 HB_w hb_wa | exact after1 HB_w hb_wa | exact after2 HB_w hb_wa | exact after3 HB_w hb_wa | exact after4 HB_w hb_wa | exact after5 HB_w hb_wa
    cases h2 : slotB f with
    | false =>
      rw [h2] at HSL HR
      have HP := Lib.hid (show r = ([], 1) from HR.out)
      clear HR h1 h2
      go_wp2_with fail
      all_goals try (exfalso; omega)
      refine (HSL.out _).mono ?_
      rintro e wb ⟨rfl, hb_wb⟩
      have HB_wb : Below w.heap.size w wb := by first | exact after0 HB_wa hb_wb | exact after1 HB_wa hb_wb | exact after2 HB_wa hb_wb | exact after3 HB_wa hb_wb | exact after4 HB_wa hb_wb | exact after5 HB_wa hb_wb
      go_wp2_with fail
      all_goals try (exfalso; omega)
      go_ret2
      exact ⟨.slice none 0 0, by rw [HP.out]; rfl, by rw [HP.out]; exact OwnL.nil, HB_wb⟩
    | true =>
      rw [h2] at HSL HR
      have HP := Lib.hid (show r = (planF l f, 0) from HR.out)
      have HPX := Lib.hid (fun W hW => HPL.out W hW h1 h2)
      clear HR h1 h2
      go_wp2_with fail
      all_goals try (exfalso; omega)
      refine (HSL.out _).mono ?_
      rintro e wb ⟨rfl, hb_wb⟩
      have HB_wb : Below w.heap.size w wb := by first | exact after0 HB_wa hb_wb | exact after1 HB_wa hb_wb | exact after2 HB_wa hb_wb | exact after3 HB_wa hb_wb | exact after4 HB_wa hb_wb | exact after5 HB_wa hb_wb
      go_wp2_with fail
      all_goals try (exfalso; omega)
      refine (HPX.out wb HB_wb).mono ?_
      rintro e wc ⟨v, rfl, ho, hb_wc⟩
      have HO := Lib.hid (ho.mono HB_wb.size)
      have HB_wc := after0 HB_wb hb_wc
      clear ho hb_wc
      go_wp2_with fail
      all_goals try (exfalso; omega)
      go_ret2
      exact ⟨v, by rw [HP.out]; rfl, by rw [HP.out]; exact HO.out, HB_wc⟩
end Go.Proofs.Ytheioedggjbphaa
