/-
  Plain mathematics of the journal: rows, valid lists of rows, what holds. No program in sight.
-/
import Derived.Test.YtmbnhlihcnbebaaEyK
set_option linter.unusedVariables false
namespace Ey
/-- a row -/
structure Rw where
  item : Int
  value : Int
  fr : Int
  un : Int
  known : Int
  deriving DecidableEq, Inhabited
def rowB (r : Rw) : Bool := decide (1 ≤ r.item ∧ r.item ≤ 100000) && decide (-1000000000000 ≤ r.value ∧ r.value ≤ 1000000000000) && timeB r.fr && timeB r.un && decide (r.fr < r.un) && timeB r.known
def KnUp (l : List Rw) : Prop := l.Pairwise (fun a b => a.known ≤ b.known)
instance (l : List Rw) : Decidable (KnUp l) := inferInstanceAs (Decidable (l.Pairwise _))
def validRw (l : List Rw) : Bool := decide (l.length ≤ 200) && l.all rowB && decide (KnUp l)
def holdB (x t kn : Int) (r : Rw) : Bool := decide (r.item = x ∧ r.known ≤ kn ∧ r.fr ≤ t ∧ t < r.un)
def pickR (l : List Rw) (x t kn : Int) : Option Rw := l.reverse.find? (holdB x t kn)
def valR : Option Rw → Int × Int
  | some r => (r.value, 0)
  | none => (0, 4)
theorem knUp_adj : ∀ (l : List Rw), (∀ (i : Nat) (h : i + 1 < l.length), l[i].known ≤ l[i + 1].known) → KnUp l
  | [], _ => .nil
  | [_], _ => by unfold KnUp; simp
  | a :: b :: l, h => by
    have ih := knUp_adj (b :: l) (fun i hi => by have := h (i + 1) (by simpa using hi); simpa using this)
    have hab : a.known ≤ b.known := by have := h 0 (by simp); simpa using this
    refine .cons ?_ ih
    intro c hc
    rcases List.mem_cons.1 hc with rfl | hc
    · exact hab
    · have := (List.pairwise_cons.1 ih).1 c hc
      omega
theorem knUp_false {l : List Rw} {i : Nat} (h : i + 1 < l.length) (hlt : l[i + 1].known < l[i].known) : decide (KnUp l) = false := by
  refine decide_eq_false fun hp => ?_
  have := List.pairwise_iff_getElem.1 hp i (i + 1) (by omega) h (by omega)
  omega
theorem validRw_eq (l : List Rw) : validRw l = (decide (l.length ≤ 200) && !l.any (fun a => !rowB a) && decide (KnUp l)) := by
  unfold validRw
  rw [List.any_eq_not_all_not, Bool.not_not]
  simp only [Bool.not_not]
theorem validRw_iff {l : List Rw} : validRw l = true ↔ (l.length ≤ 200 ∧ (∀ a ∈ l, rowB a = true) ∧ KnUp l) := by unfold validRw; simp [and_assoc]
end Ey
namespace Go.Proofs.Ytmbnhlihcnbebaa
open Go Go.RowKit Ey Sk
abbrev cRw (r : Rw) : List Value := [.int .i64 r.item, .int .i64 r.value, .int .i64 r.fr, .int .i64 r.un, .int .i64 r.known]
abbrev eRw (r : Rw) : Value := .agg #[.int .i64 r.item, .int .i64 r.value, .int .i64 r.fr, .int .i64 r.un, .int .i64 r.known]
theorem cRw_len : ∀ x, (cRw x).length = 5 := fun _ => rfl
theorem cRw_one : ∀ x, ∀ u ∈ cRw x, u.oneCell' = true := by intro x u hu; simp [cRw] at hu; rcases hu with rfl | rfl | rfl | rfl | rfl <;> rfl
end Go.Proofs.Ytmbnhlihcnbebaa

set_option linter.unusedVariables false
namespace Go.Proofs.Ytmbnhlihcnbebaa
open Go Go.RowKit Ey Sk Go.Sort
theorem bitem_any (n : Int) (w : World) : Calls Try.prog 60 #[.int .i64 n] w (Ret w (.bool (decide (1 ≤ n ∧ n ≤ 100000)))) := by
  go_enter Try.func60, Try.ntmps60
  go_wp2
  all_goals
    go_ret
    exact ⟨ret_bool (by simp; omega), Below.refl _ _⟩
theorem bvalue_any (n : Int) (w : World) : Calls Try.prog 91 #[.int .i64 n] w (Ret w (.bool (decide (-1000000000000 ≤ n ∧ n ≤ 1000000000000)))) := by
  go_enter Try.func91, Try.ntmps91
  go_wp2
  all_goals
    go_ret
    exact ⟨ret_bool (by simp; omega), Below.refl _ _⟩
theorem btime_any (n : Int) (w : World) : Calls Try.prog 61 #[.int .i64 n] w (Ret w (.bool (timeB n))) := by
  unfold timeB
  go_enter Try.func61, Try.ntmps61
  go_wp2
  all_goals
    go_ret
    exact ⟨ret_bool (by simp; omega), Below.refl _ _⟩
set_option maxRecDepth 100000 in
set_option maxHeartbeats 4000000 in
theorem brow_any (r : Rw) (w : World) : Calls Try.prog 74 #[eRw r] w (Ret w (.bool (rowB r))) := by
  obtain ⟨r0, r1, r2, r3, r4⟩ := r
  have HS := Lib.hid (show rowB ⟨r0, r1, r2, r3, r4⟩ = (decide (1 ≤ r0 ∧ r0 ≤ 100000) && decide (-1000000000000 ≤ r1 ∧ r1 ≤ 1000000000000) && timeB r2 && timeB r3 && decide (r2 < r3) && timeB r4) from rfl)
  generalize rowB ⟨r0, r1, r2, r3, r4⟩ = p at *
  obtain ⟨W0, hW0, HB_W0, hZ, hn⟩ := boxes1 w [.int .i64 r0, .int .i64 r1, .int .i64 r2, .int .i64 r3, .int .i64 r4] 94
  have H_n := Lib.hid hn
  dsimp only [eRw]
  clear hn hZ
  obtain ⟨q_n_0, q_n_1, q_n_2, q_n_3, q_n_4⟩ := H_n.out.c5
  go_enter Try.func74, Try.ntmps74
  go_wp2_with fail
  have HC0 := Lib.hid (fun W => bitem_any r0 W)
  have HC1 := Lib.hid (fun W => bvalue_any r1 W)
  have HC2 := Lib.hid (fun W => btime_any r2 W)
  have HC3 := Lib.hid (fun W => btime_any r3 W)
  have HC4 := Lib.hid (fun W => btime_any r4 W)
  generalize decide (1 ≤ r0 ∧ r0 ≤ 100000) = q0 at *
  generalize decide (-1000000000000 ≤ r1 ∧ r1 ≤ 1000000000000) = q1 at *
  generalize timeB r2 = q2 at *
  generalize timeB r3 = q3 at *
  generalize timeB r4 = q4 at *
  refine (HC0.out _).mono ?_
  rintro e wa ⟨rfl, hb_wa⟩
  have HB_wa : Below w.heap.size w wa := by first | exact after0 HB_W0 hb_wa | exact after1 HB_W0 hb_wa | exact after2 HB_W0 hb_wa | exact after3 HB_W0 hb_wa | exact after4 HB_W0 hb_wa | exact after5 HB_W0 hb_wa
  try clear q_n_0 q_n_1 q_n_2 q_n_3 q_n_4
  have H_n := Lib.hid (Box.below (by first | exact H_n.out | exact H_n.out.alloc _ | exact (H_n.out.alloc _).alloc _ | exact ((H_n.out.alloc _).alloc _).alloc _) hb_wa)
  obtain ⟨q_n_0, q_n_1, q_n_2, q_n_3, q_n_4⟩ := H_n.out.c5
  clear hW0
  cases q0
  · have HP := Lib.hid (show p = false by rw [HS.out]; rfl)
    go_wp2_with fail
    all_goals try (exfalso; omega)
    all_goals
      go_ret
      exact ⟨ret_bool' HP.out.symm, HB_wa⟩
  go_wp2_with fail
  all_goals try (exfalso; omega)
  refine (HC1.out _).mono ?_
  rintro e wb ⟨rfl, hb_wb⟩
  have HB_wb : Below w.heap.size w wb := by first | exact after0 HB_wa hb_wb | exact after1 HB_wa hb_wb | exact after2 HB_wa hb_wb | exact after3 HB_wa hb_wb | exact after4 HB_wa hb_wb | exact after5 HB_wa hb_wb
  try clear q_n_0 q_n_1 q_n_2 q_n_3 q_n_4
  have H_n := Lib.hid (Box.below (by first | exact H_n.out | exact H_n.out.alloc _ | exact (H_n.out.alloc _).alloc _ | exact ((H_n.out.alloc _).alloc _).alloc _) hb_wb)
  obtain ⟨q_n_0, q_n_1, q_n_2, q_n_3, q_n_4⟩ := H_n.out.c5
  cases q1
  · have HP := Lib.hid (show p = false by rw [HS.out]; rfl)
    go_wp2_with fail
    all_goals try (exfalso; omega)
    all_goals
      go_ret
      exact ⟨ret_bool' HP.out.symm, HB_wb⟩
  go_wp2_with fail
  all_goals try (exfalso; omega)
  refine (HC2.out _).mono ?_
  rintro e wc ⟨rfl, hb_wc⟩
  have HB_wc : Below w.heap.size w wc := by first | exact after0 HB_wb hb_wc | exact after1 HB_wb hb_wc | exact after2 HB_wb hb_wc | exact after3 HB_wb hb_wc | exact after4 HB_wb hb_wc | exact after5 HB_wb hb_wc
  try clear q_n_0 q_n_1 q_n_2 q_n_3 q_n_4
  have H_n := Lib.hid (Box.below (by first | exact H_n.out | exact H_n.out.alloc _ | exact (H_n.out.alloc _).alloc _ | exact ((H_n.out.alloc _).alloc _).alloc _) hb_wc)
  obtain ⟨q_n_0, q_n_1, q_n_2, q_n_3, q_n_4⟩ := H_n.out.c5
  cases q2
  · have HP := Lib.hid (show p = false by rw [HS.out]; rfl)
    go_wp2_with fail
    all_goals try (exfalso; omega)
    all_goals
      go_ret
      exact ⟨ret_bool' HP.out.symm, HB_wc⟩
  go_wp2_with fail
  all_goals try (exfalso; omega)
  refine (HC3.out _).mono ?_
  rintro e wd ⟨rfl, hb_wd⟩
  have HB_wd : Below w.heap.size w wd := by first | exact after0 HB_wc hb_wd | exact after1 HB_wc hb_wd | exact after2 HB_wc hb_wd | exact after3 HB_wc hb_wd | exact after4 HB_wc hb_wd | exact after5 HB_wc hb_wd
  try clear q_n_0 q_n_1 q_n_2 q_n_3 q_n_4
  have H_n := Lib.hid (Box.below (by first | exact H_n.out | exact H_n.out.alloc _ | exact (H_n.out.alloc _).alloc _ | exact ((H_n.out.alloc _).alloc _).alloc _) hb_wd)
  obtain ⟨q_n_0, q_n_1, q_n_2, q_n_3, q_n_4⟩ := H_n.out.c5
  cases q3
  · have HP := Lib.hid (show p = false by rw [HS.out]; rfl)
    go_wp2_with fail
    all_goals try (exfalso; omega)
    all_goals
      go_ret
      exact ⟨ret_bool' HP.out.symm, HB_wd⟩
  by_cases hlt : r2 < r3
  case neg =>
    have HP := Lib.hid (show p = false by rw [HS.out, decide_eq_false hlt]; rfl)
    replace hlt := Int.not_lt.1 hlt
    go_wp2_with fail
    all_goals try (exfalso; omega)
    all_goals
      go_ret
      exact ⟨ret_bool' HP.out.symm, HB_wd⟩
  have HP := Lib.hid (show p = q4 by rw [HS.out, decide_eq_true hlt]; simp)
  go_wp2_with fail
  all_goals try (exfalso; omega)
  refine (HC4.out _).mono ?_
  rintro e we ⟨rfl, hb_we⟩
  have HB_we : Below w.heap.size w we := by first | exact after0 HB_wd hb_we | exact after1 HB_wd hb_we | exact after2 HB_wd hb_we | exact after3 HB_wd hb_we | exact after4 HB_wd hb_we | exact after5 HB_wd hb_we
  try clear q_n_0 q_n_1 q_n_2 q_n_3 q_n_4
  have H_n := Lib.hid (Box.below (by first | exact H_n.out | exact H_n.out.alloc _ | exact (H_n.out.alloc _).alloc _ | exact ((H_n.out.alloc _).alloc _).alloc _) hb_we)
  obtain ⟨q_n_0, q_n_1, q_n_2, q_n_3, q_n_4⟩ := H_n.out.c5
  go_wp2_with fail
  all_goals try (exfalso; omega)
  all_goals
    go_ret
    exact ⟨ret_bool' HP.out.symm, HB_we⟩
theorem bvalid1_any (a : Rw) (w : World) : Calls Try.prog 76 #[eRw a] w (Ret w (.bool (!rowB a))) := by
  have HV := Lib.hid (fun W => brow_any a W)
  generalize rowB a = p at *
  obtain ⟨a0, a1, a2, a3, a4⟩ := a
  dsimp only [eRw] at HV ⊢
  have HB_w : Below w.heap.size w w := Below.refl _ _
  go_enter Try.func76, Try.ntmps76
  go_wp2_with fail
  refine (HV.out _).mono ?_
  rintro e wa ⟨rfl, hb_wa⟩
  have HB_wa : Below w.heap.size w wa := by first | exact after0 HB_w hb_wa | exact after1 HB_w hb_wa | exact after2 HB_w hb_wa | exact after3 HB_w hb_wa | exact after4 HB_w hb_wa | exact after5 HB_w hb_wa
  go_wp2_with fail
  go_ret
  exact ⟨rfl, HB_wa⟩
theorem bvalid2_any (a b : Rw) (w : World) : Calls Try.prog 77 #[eRw a, eRw b] w (Ret w (.int .i64 (cmpI a.known b.known))) := by
  obtain ⟨a0, a1, a2, a4, a3⟩ := a
  obtain ⟨b0, b1, b2, b4, b3⟩ := b
  dsimp only [eRw]
  have HB_w : Below w.heap.size w w := Below.refl _ _
  go_enter Try.func77, Try.ntmps77
  go_wp2_with fail
  refine (compare_any a3 b3 _).mono ?_
  rintro e wa ⟨rfl, hb_wa⟩
  have HB_wa : Below w.heap.size w wa := by first | exact after0 HB_w hb_wa | exact after1 HB_w hb_wa | exact after2 HB_w hb_wa | exact after3 HB_w hb_wa | exact after4 HB_w hb_wa | exact after5 HB_w hb_wa
  go_wp2_with fail
  go_ret
  exact ⟨rfl, HB_wa⟩

set_option maxRecDepth 100000 in
set_option maxHeartbeats 1000000 in
theorem bindex_any (ao : Option Addr) (n cap : Nat) (l : List Rw) (g : Nat) (lb : Array Value) (p : Rw → Bool) (w : World) (hs : Sl w 5 cRw ao n cap l) (hp : Asks Try.prog g lb eRw p l w)
    (eg : ∀ args w, (callFunc g args).run Try.prog w = .ok (.enter g args) w) :
    Calls Try.prog 92 #[.slice ao n cap, .func (.func g) #[] lb] w (Ret w (.int .i64 (fIdx p l))) := by
  obtain rfl := hs.len
  have hcap := hs.max
  have hle := hs.le
  unfold maxLen at hcap
  have HS : Hid (Sl w 5 cRw ao l.length cap l) := hs
  have HP : Hid (Asks Try.prog g lb eRw p l w) := hp
  clear hs hp
  go_enter Try.func92, Try.ntmps92
  go_wp2
  go_loopw [5, 8] (fun _ i wr => ∃ k : Nat, k ≤ l.length ∧ i = .int .i64 k ∧ Below w.heap.size w wr ∧ Hid (∀ j (h : j < l.length), j < k → p l[j] = false)) (fun _ i _ => l.length - (intOf i).toNat)
  case atStart => exact ⟨0, Nat.zero_le _, rfl, Below.refl _ _, fun j _ h => absurd h (Nat.not_lt_zero _)⟩
  case round =>
    obtain ⟨k, hk, rfl, hbel, HN⟩ := hrel
    by_cases hlt : k < l.length
    · obtain ⟨b, off, rfl, hb, hrow⟩ := HS.out.get hlt
      obtain ⟨h0, h1, h2, h3, h4⟩ := ((hrow k hlt).below hbel hb).c5
      have hcall := HP.out wr l[k] hbel (List.getElem_mem hlt)
      clear hrow
      by_cases hpk : p l[k] = true
      · have HR : Hid (fIdx p l = k) := fIdx_hit hlt hpk HN.out
        go_wp2_with fail
        refine hcall.mono ?_
        rintro e w' ⟨rfl, hb2⟩
        clear hcall h0 h1 h2 h3 h4
        go_wp2
        go_ret
        exact ⟨ret_int HR.out.symm, hbel.trans (hb2.mono hbel.size)⟩
      · have HR : Hid (∀ j (h : j < l.length), j < k + 1 → p l[j] = false) := fun j h hj => by
          by_cases hjk : j = k
          · subst hjk; simpa using hpk
          · exact HN.out j h (by omega)
        go_wp2_with fail
        refine hcall.mono ?_
        rintro e w' ⟨rfl, hb2⟩
        clear hcall h0 h1 h2 h3 h4
        go_wp2
        go_roundw
        case rel => exact ⟨k + 1, by omega, by go_num, hbel.trans (hb2.mono hbel.size), HR⟩
        case measure => simp [intOf]; omega
    · have HR : Hid (fIdx p l = -1) := fIdx_miss fun j hj => HN.out j hj (by omega)
      go_wp2
      go_ret
      exact ⟨ret_int HR.out.symm, hbel⟩

theorem bcontains_any (ao : Option Addr) (n cap : Nat) (l : List Rw) (g : Nat) (lb : Array Value) (p : Rw → Bool) (w : World) (hs : Sl w 5 cRw ao n cap l) (hp : Asks Try.prog g lb eRw p l w)
    (eg : ∀ args w, (callFunc g args).run Try.prog w = .ok (.enter g args) w) :
    Calls Try.prog 78 #[.slice ao n cap, .func (.func g) #[] lb] w (Ret w (.bool (l.any p))) := by
  have hc := bindex_any ao n cap l g lb p w hs hp eg
  have HA : Hid (l.any p = true ↔ 0 ≤ fIdx p l) := any_fIdx
  clear hs hp
  generalize l.any p = q at *
  generalize fIdx p l = r at *
  go_enter Try.func78, Try.ntmps78
  go_wp2_with fail
  refine hc.mono ?_
  rintro e w' ⟨rfl, hb2⟩
  go_wp2
  go_ret
  exact ⟨ret_bool (by rw [HA.out]; simp), hb2⟩

set_option maxRecDepth 100000 in
set_option maxHeartbeats 4000000 in
theorem bisSorted_any (ao : Option Addr) (n cap : Nat) (l : List Rw) (w : World) (hs : Sl w 5 cRw ao n cap l) : Calls Try.prog 79 #[.slice ao n cap, .func (.func 77) #[] #[]] w (Ret w (.bool (decide (KnUp l)))) := by
  obtain rfl := hs.len
  have hcap := hs.max
  have hle := hs.le
  unfold maxLen at hcap
  have HS := Lib.hid hs
  have HB_w : Below w.heap.size w w := Below.refl _ _
  have HF := Lib.hid (fun i => @knUp_false l i)
  have HT := Lib.hid (knUp_adj l)
  clear hs
  obtain ⟨v, hv⟩ : ∃ v, decide (KnUp l) = v := ⟨_, rfl⟩
  rw [hv]
  have HV := Lib.hid hv
  clear hv
  go_enter Try.func79, Try.ntmps79
  go_wp2_with fail
  go_loopw [5] (fun i wr => ∃ (k : Nat) (z : Int), (k = 0 ∨ k < l.length) ∧ i = .int .i64 z ∧ ((z = k ∧ k < l.length) ∨ (z = -1 ∧ l.length = 0 ∧ k = 0)) ∧ Below w.heap.size w wr ∧ Hid (∀ (i : Nat) (h : i + 1 < l.length), k ≤ i → l[i].known ≤ l[i + 1].known)) (fun i _ => (intOf i).toNat)
  case atStart =>
    rcases Nat.eq_zero_or_pos l.length with h0 | h0
    · exact ⟨0, -1, .inl rfl, by go_num, .inr ⟨rfl, h0, rfl⟩, HB_w, fun i h _ => by omega⟩
    · exact ⟨l.length - 1, _, .inr (by omega), rfl, .inl ⟨by omega, by omega⟩, HB_w, fun i h hi => by omega⟩
  case round =>
    obtain ⟨k, z, hk, rfl, hz, HB_wr, HN⟩ := hrel
    rcases k with _ | k
    · have hz0 : z ≤ 0 := by omega
      have HP := Lib.hid (show true = v by rw [← HV.out]; exact (decide_eq_true (HT.out (fun i h => HN.out i h (Nat.zero_le _)))).symm)
      clear hz hk HN
      go_wp2_with fail
      all_goals try (exfalso; omega)
      go_ret
      exact ⟨ret_bool' HP.out, HB_wr⟩
    · obtain rfl : z = ((k + 1 : Nat) : Int) := by omega
      have hkl : k + 1 < l.length := by omega
      clear hz hk
      obtain ⟨b, off, rfl, hb, hrow⟩ := HS.out.get hkl
      obtain ⟨e_0, e_1, e_2, e_3, e_4⟩ := ((hrow (k + 1) hkl).below HB_wr hb).c5
      obtain ⟨f_0, f_1, f_2, f_3, f_4⟩ := ((hrow k (by omega)).below HB_wr hb).c5
      have HC := Lib.hid (fun W => bvalid2_any l[k + 1] l[k] W)
      have HFK := Lib.hid (HF.out k hkl)
      have HNN := Lib.hid (show l[k].known ≤ l[k + 1].known → ∀ (i : Nat) (h : i + 1 < l.length), k ≤ i → l[i].known ≤ l[i + 1].known from fun h1 i h hi => by
        rcases Nat.eq_or_lt_of_le hi with rfl | h2
        · exact h1
        · exact HN.out i h h2)
      clear hrow HN
      generalize l[k + 1] = x at *
      generalize l[k] = y at *
      obtain ⟨x0, x1, x2, x4, x3⟩ := x
      obtain ⟨y0, y1, y2, y4, y3⟩ := y
      dsimp only [eRw] at e_0 e_1 e_2 e_3 e_4 f_0 f_1 f_2 f_3 f_4 HC HFK HNN
      by_cases hxy : x3 < y3
      · have HP := Lib.hid (show false = v by rw [← HV.out]; exact (HFK.out hxy).symm)
        rw [show cmpI x3 y3 = -1 by unfold cmpI; rw [if_pos hxy]] at HC
        clear HFK HNN hxy
        go_wp2_with fail
        all_goals try (exfalso; omega)
        have y_e_0 := cell_regrown e_0
        have y_e_1 := cell_regrown e_1
        have y_e_2 := cell_regrown e_2
        have y_e_3 := cell_regrown e_3
        have y_e_4 := cell_regrown e_4
        clear e_0 e_1 e_2 e_3 e_4
        have y_f_0 := cell_regrown f_0
        have y_f_1 := cell_regrown f_1
        have y_f_2 := cell_regrown f_2
        have y_f_3 := cell_regrown f_3
        have y_f_4 := cell_regrown f_4
        clear f_0 f_1 f_2 f_3 f_4
        refine wp_region_plan (C := fun w' => ∃ p : Regrown, w' = grow (redrawn wr p.d) p.os) (.q 0 (.q 1 (.q 2 (.q 3 (.q 4 (.q 5 (.q 6 (.q 7 (.q 8 (.q 9 (.e 10 (.q 11 (.done))))))))))))) 12 (by kernel_rfl) (by kernel_rfl) (grew_drew _) ?_
        repeat (any_goals (first | (go_big_quiet_skip; refine wpQuiet_nil ?_) | (go_big_quiet_want; go_big_quiet_op; go_big_quiet_on; refine wpQuiet_nil ?_) | ((with_reducible apply q_split); exact rfl; intro q hq; cases q <;> (rw [hq]; (try first | replace hq := bnot_t hq | replace hq := bnot_f hq); (try first | replace hq := of_decide_eq_true hq | replace hq := of_decide_eq_false hq | replace hq := eq_of_beq hq); (try first | replace hq := Int.not_lt.1 hq | replace hq := Int.not_le.1 hq | replace hq := Nat.not_lt.1 hq | replace hq := Nat.not_le.1 hq); try (exfalso; omega))) | (refine plan_q rfl rfl ?_)))
        refine plan_e rfl ?_
        go_wp2_with fail
        refine (HC.out _).mono ?_
        rintro e wa ⟨rfl, hb_wa⟩
        have HW_wa : Below wr.heap.size wr wa := below_undrew hb_wa
        clear hb_wa
        go_wp2_with fail
        refine MixPost.intro (grew_of_below HW_wa) ?_
        repeat (any_goals (first | (go_big_quiet_skip; refine wpQuiet_nil ?_) | (go_big_quiet_want; go_big_quiet_op; go_big_quiet_on; refine wpQuiet_nil ?_) | ((with_reducible apply q_split); exact rfl; intro q hq; cases q <;> (rw [hq]; (try first | replace hq := bnot_t hq | replace hq := bnot_f hq); (try first | replace hq := of_decide_eq_true hq | replace hq := of_decide_eq_false hq | replace hq := eq_of_beq hq); (try first | replace hq := Int.not_lt.1 hq | replace hq := Int.not_le.1 hq | replace hq := Nat.not_lt.1 hq | replace hq := Nat.not_le.1 hq); try (exfalso; omega))) | (refine plan_q rfl rfl ?_)))
        clear y_e_0 y_e_1 y_e_2 y_e_3 y_e_4
        clear y_f_0 y_f_1 y_f_2 y_f_3 y_f_4
        all_goals refine plan_done ?_
        all_goals (try simp only [List.drop_succ_cons, List.drop_zero])
        all_goals (try go_wp2_with fail)
        all_goals refine NoPanic.normal ?_
        all_goals (try go_wp2_with fail)
        have HB_wa := after0 HB_wr HW_wa
        go_ret
        exact ⟨ret_bool' HP.out, HB_wa⟩
      · have HNX := Lib.hid (HNN.out (by omega))
        have hc0 : 0 ≤ cmpI x3 y3 := by unfold cmpI; rw [if_neg hxy]; split <;> omega
        generalize cmpI x3 y3 = c at *
        clear HFK HNN hxy
        go_wp2_with fail
        all_goals try (exfalso; omega)
        have y_e_0 := cell_regrown e_0
        have y_e_1 := cell_regrown e_1
        have y_e_2 := cell_regrown e_2
        have y_e_3 := cell_regrown e_3
        have y_e_4 := cell_regrown e_4
        clear e_0 e_1 e_2 e_3 e_4
        have y_f_0 := cell_regrown f_0
        have y_f_1 := cell_regrown f_1
        have y_f_2 := cell_regrown f_2
        have y_f_3 := cell_regrown f_3
        have y_f_4 := cell_regrown f_4
        clear f_0 f_1 f_2 f_3 f_4
        refine wp_region_plan (C := fun w' => ∃ p : Regrown, w' = grow (redrawn wr p.d) p.os) (.q 0 (.q 1 (.q 2 (.q 3 (.q 4 (.q 5 (.q 6 (.q 7 (.q 8 (.q 9 (.e 10 (.q 11 (.done))))))))))))) 12 (by kernel_rfl) (by kernel_rfl) (grew_drew _) ?_
        repeat (any_goals (first | (go_big_quiet_skip; refine wpQuiet_nil ?_) | (go_big_quiet_want; go_big_quiet_op; go_big_quiet_on; refine wpQuiet_nil ?_) | ((with_reducible apply q_split); exact rfl; intro q hq; cases q <;> (rw [hq]; (try first | replace hq := bnot_t hq | replace hq := bnot_f hq); (try first | replace hq := of_decide_eq_true hq | replace hq := of_decide_eq_false hq | replace hq := eq_of_beq hq); (try first | replace hq := Int.not_lt.1 hq | replace hq := Int.not_le.1 hq | replace hq := Nat.not_lt.1 hq | replace hq := Nat.not_le.1 hq); try (exfalso; omega))) | (refine plan_q rfl rfl ?_)))
        refine plan_e rfl ?_
        go_wp2_with fail
        refine (HC.out _).mono ?_
        rintro e wa ⟨rfl, hb_wa⟩
        have HW_wa : Below wr.heap.size wr wa := below_undrew hb_wa
        clear hb_wa
        go_wp2_with fail
        refine MixPost.intro (grew_of_below HW_wa) ?_
        repeat (any_goals (first | (go_big_quiet_skip; refine wpQuiet_nil ?_) | (go_big_quiet_want; go_big_quiet_op; go_big_quiet_on; refine wpQuiet_nil ?_) | ((with_reducible apply q_split); exact rfl; intro q hq; cases q <;> (rw [hq]; (try first | replace hq := bnot_t hq | replace hq := bnot_f hq); (try first | replace hq := of_decide_eq_true hq | replace hq := of_decide_eq_false hq | replace hq := eq_of_beq hq); (try first | replace hq := Int.not_lt.1 hq | replace hq := Int.not_le.1 hq | replace hq := Nat.not_lt.1 hq | replace hq := Nat.not_le.1 hq); try (exfalso; omega))) | (refine plan_q rfl rfl ?_)))
        clear y_e_0 y_e_1 y_e_2 y_e_3 y_e_4
        clear y_f_0 y_f_1 y_f_2 y_f_3 y_f_4
        all_goals refine plan_done ?_
        all_goals (try simp only [List.drop_succ_cons, List.drop_zero])
        all_goals (try go_wp2_with fail)
        all_goals refine NoPanic.normal ?_
        all_goals (try go_wp2_with fail)
        have HB_wa := after0 HB_wr HW_wa
        go_roundw
        case rel => exact ⟨k, (k : Int), .inr (by omega), by go_num, .inl ⟨rfl, by omega⟩, HB_wa, HNX.out⟩
        case measure => simp [intOf] <;> omega

set_option maxRecDepth 100000 in
set_option maxHeartbeats 4000000 in
theorem bValid_any (ao : Option Addr) (n cap : Nat) (l : List Rw) (w : World) (hs : Sl w 5 cRw ao n cap l) : Calls Try.prog 59 #[.slice ao n cap] w (Ret w (.bool (validRw l))) := by
  obtain rfl := hs.len
  have hcap := hs.max
  have hle := hs.le
  unfold maxLen at hcap
  have HS := Lib.hid hs
  have HB_w : Below w.heap.size w w := Below.refl _ _
  have HE := Lib.hid (validRw_eq l)
  clear hs
  generalize validRw l = v at *
  go_enter Try.func59, Try.ntmps59
  by_cases h9 : 200 < l.length
  · have HP := Lib.hid (show v = false by rw [HE.out, show decide (l.length ≤ 200) = false from decide_eq_false (by omega)]; rfl)
    have h9i : 200 < (l.length : Int) := by omega
    go_wp2_with fail
    all_goals try (exfalso; omega)
    go_ret
    exact ⟨ret_bool' HP.out.symm, HB_w⟩
  have HE2 := Lib.hid (show v = (!l.any (fun a => !rowB a) && decide (KnUp l)) by rw [HE.out, show decide (l.length ≤ 200) = true from decide_eq_true (by omega)]; rfl)
  have h9i : (l.length : Int) ≤ 200 := by omega
  clear HE
  have HC := Lib.hid (bcontains_any _ _ _ l 76 #[] (fun a => !rowB a) w HS.out (fun W x _ _ => bvalid1_any x W) (fun args w => by kernel_rfl))
  generalize l.any (fun a => !rowB a) = u at *
  go_wp2_with fail
  all_goals try (exfalso; omega)
  refine (HC.out).mono ?_
  rintro e wa ⟨rfl, hb_wa⟩
  have HB_wa : Below w.heap.size w wa := by first | exact after0 HB_w hb_wa | exact after1 HB_w hb_wa | exact after2 HB_w hb_wa | exact after3 HB_w hb_wa | exact after4 HB_w hb_wa | exact after5 HB_w hb_wa
  have HD := Lib.hid (bisSorted_any _ _ _ l wa (HS.out.below HB_wa))
  generalize decide (KnUp l) = t at *
  cases u
  · have HP := Lib.hid (show v = t by rw [HE2.out]; rfl)
    go_wp2_with fail
    all_goals try (exfalso; omega)
    refine (HD.out).mono ?_
    rintro e wb ⟨rfl, hb_wb⟩
    have HB_wb : Below w.heap.size w wb := by first | exact after0 HB_wa hb_wb | exact after1 HB_wa hb_wb | exact after2 HB_wa hb_wb | exact after3 HB_wa hb_wb | exact after4 HB_wa hb_wb | exact after5 HB_wa hb_wb
    go_wp2_with fail
    go_ret
    exact ⟨ret_bool' HP.out.symm, HB_wb⟩
  · have HP := Lib.hid (show v = false by rw [HE2.out]; rfl)
    go_wp2_with fail
    all_goals try (exfalso; omega)
    go_ret
    exact ⟨ret_bool' HP.out.symm, HB_wa⟩
end Go.Proofs.Ytmbnhlihcnbebaa

set_option linter.unusedVariables false
namespace Go.Proofs.Ytmbnhlihcnbebaa
open Go Go.RowKit Ey Sk Go.Sort
theorem info_row : (Try.prog.info? 94).map (fun i => (i.zero, i.size, i.bytes)) = some (some (.agg #[.int .i64 0, .int .i64 0, .int .i64 0, .int .i64 0, .int .i64 0]), 5, 40) := by kernel_rfl

set_option maxHeartbeats 1000000 in
theorem bclone_any (ao : Option Addr) (n cap : Nat) (l : List Rw) (w : World) (hs : Sl w 5 cRw ao n cap l) (hn : n ≤ 1000) :
    Calls Try.prog 75 #[.slice ao n cap] w fun e w' => ∃ v, e = .returned v ∧ OwnL w' w.heap.size 94 5 cRw v l ∧ Below w.heap.size w w' := by
  obtain rfl := hs.len
  have hle := hs.le
  have hmax := hs.max
  have hnone := hs.none
  obtain ⟨i0, hi, hz0, hz1, hz2⟩ := info_parts info_row
  go_enter Try.func75, Try.ntmps75
  have heq := slice_eq_nil (P := Try.prog) Try.underlying61 ao l.length cap
  cases ao with
  | none =>
    obtain rfl := hnone rfl
    have h0 : l = [] := List.eq_nil_of_length_eq_zero (by omega)
    subst h0
    dsimp only [List.length_nil, Option.isNone] at *
    go_wp2_with fail
    go_ret
    exact ⟨_, rfl, OwnL.nil, Below.refl _ _⟩
  | some a =>
    dsimp only [Option.isNone] at heq
    have hb1 : Below w.heap.size w (w.alloc (.cells #[] 94)) := grew1 (Below.refl _ _)
    have HS := Lib.hid (hs.below hb1)
    have HO := Lib.hid (OwnL.made (e := 94) (size := 5) (enc := cRw) (Nat.le_refl w.heap.size))
    go_wp2_with (at_builtin; refine wpList_append_sl rfl _ _ 61 rfl w.heap.size 94 i0 _ 5 40 Try.underlying61 hi hz0 hz1 hz2 rfl (by decide) cRw_len cRw_one _ [] rfl HO.out (some a) l.length cap l rfl HS.out (by unfold maxLen; simp; omega) (by simp; omega) (by simp) ?_)
    rintro v' w' ho hg _
    have hb2 := hg _ (Nat.le_refl _)
    go_wp2
    go_ret
    exact ⟨v', rfl, ho, hb1.trans hb2⟩

set_option maxRecDepth 100000 in
set_option maxHeartbeats 4000000 in
theorem say_any (ao : Option Addr) (n cap : Nat) (l : List Rw) (r : Rw) (w : World) (hs : Sl w 5 cRw ao n cap l) (hv : validRw l = true) (hr : rowB r = true) (hn : l.length < 200) (hk : ∀ q ∈ l, q.known ≤ r.known) :
    Calls Try.prog 58 #[.slice ao n cap, eRw r] w fun e w' => ∃ v, e = .returned (.tuple #[v, .int .i64 0]) ∧ OwnL w' w.heap.size 94 5 cRw v (l ++ [r]) ∧ Below w.heap.size w w' := by
  obtain rfl := hs.len
  have HS := Lib.hid hs
  have HV := Lib.hid (fun W hW => bValid_any ao l.length cap l W (HS.out.below hW))
  have HRB := Lib.hid (fun W => brow_any r W)
  have HCL := Lib.hid (fun W hW => bclone_any ao l.length cap l W (HS.out.below hW) (by omega))
  rw [hv] at HV
  rw [hr] at HRB
  have HK := Lib.hid (fun (k : Nat) (h : k < l.length) => hk l[k] (List.getElem_mem h))
  obtain ⟨r0, r1, r2, r3, r4⟩ := r
  dsimp only [eRw] at HRB HK ⊢
  clear hs hv hr hk
  obtain ⟨i0, hi, hz0, hz1, hz2⟩ := info_parts info_row
  have HI := Lib.hid hi
  have HZ0 := Lib.hid hz0
  have HZ1 := Lib.hid hz1
  have HZ2 := Lib.hid hz2
  clear hi hz0 hz1 hz2
  obtain ⟨W0, hW0, HB_W0, hZ, hnn⟩ := boxes1 w [.int .i64 r0, .int .i64 r1, .int .i64 r2, .int .i64 r3, .int .i64 r4] 94
  have H_n := Lib.hid hnn
  clear hnn hZ
  obtain ⟨q_n_0, q_n_1, q_n_2, q_n_3, q_n_4⟩ := H_n.out.c5
  go_enter Try.func58, Try.ntmps58
  go_wp2_with fail
  refine (HV.out _ HB_W0).mono ?_
  rintro e wa ⟨rfl, hb_wa⟩
  have HB_wa : Below w.heap.size w wa := by first | exact after0 HB_W0 hb_wa | exact after1 HB_W0 hb_wa | exact after2 HB_W0 hb_wa | exact after3 HB_W0 hb_wa | exact after4 HB_W0 hb_wa | exact after5 HB_W0 hb_wa
  try clear q_n_0 q_n_1 q_n_2 q_n_3 q_n_4
  have H_n := Lib.hid (Box.below (by first | exact H_n.out | exact H_n.out.alloc _ | exact (H_n.out.alloc _).alloc _ | exact ((H_n.out.alloc _).alloc _).alloc _) hb_wa)
  obtain ⟨q_n_0, q_n_1, q_n_2, q_n_3, q_n_4⟩ := H_n.out.c5
  clear hW0
  go_wp2_with fail
  refine (HRB.out _).mono ?_
  rintro e wb ⟨rfl, hb_wb⟩
  have HB_wb : Below w.heap.size w wb := by first | exact after0 HB_wa hb_wb | exact after1 HB_wa hb_wb | exact after2 HB_wa hb_wb | exact after3 HB_wa hb_wb | exact after4 HB_wa hb_wb | exact after5 HB_wa hb_wb
  try clear q_n_0 q_n_1 q_n_2 q_n_3 q_n_4
  have H_n := Lib.hid (Box.below (by first | exact H_n.out | exact H_n.out.alloc _ | exact (H_n.out.alloc _).alloc _ | exact ((H_n.out.alloc _).alloc _).alloc _) hb_wb)
  obtain ⟨q_n_0, q_n_1, q_n_2, q_n_3, q_n_4⟩ := H_n.out.c5
  have hne : ((l.length : Int) == 200) = false := beq_eq_false_iff_ne.2 (by omega)
  clear q_n_0 q_n_1 q_n_2 q_n_3 q_n_4
  have hnl : (l.length : Int) < 200 := by omega
  go_wp2_with fail
  obtain ⟨n_0, n_1, n_2, n_3, n_4⟩ := H_n.out.c5
  rcases Nat.eq_zero_or_pos l.length with h0 | h0
  · obtain rfl : l = [] := List.eq_nil_of_length_eq_zero h0
    dsimp only [List.length_nil] at *
    have y_n_0 := cell_regrown n_0
    have y_n_1 := cell_regrown n_1
    have y_n_2 := cell_regrown n_2
    have y_n_3 := cell_regrown n_3
    have y_n_4 := cell_regrown n_4
    clear n_0 n_1 n_2 n_3 n_4
    refine wp_region_plan (C := fun w' => ∃ p : Regrown, w' = grow (redrawn wb p.d) p.os) (.q 0 (.q 1 (.q 2 (.q 3 (.q 4 (.q 5 (.q 6 (.q 7 (.q 8 (.q 9 (.q 10 (.q 11 (.q 12 (.q 13 (.done))))))))))))))) 14 (by kernel_rfl) (by kernel_rfl) (grew_drew _) ?_
    repeat (any_goals (first | (go_big_quiet_skip; refine wpQuiet_nil ?_) | (go_big_quiet_want; go_big_quiet_op; go_big_quiet_on; refine wpQuiet_nil ?_) | ((with_reducible apply q_split); exact rfl; intro q hq; cases q <;> (rw [hq]; (try first | replace hq := bnot_t hq | replace hq := bnot_f hq); (try first | replace hq := of_decide_eq_true hq | replace hq := of_decide_eq_false hq | replace hq := eq_of_beq hq); (try first | replace hq := Int.not_lt.1 hq | replace hq := Int.not_le.1 hq | replace hq := Nat.not_lt.1 hq | replace hq := Nat.not_le.1 hq); try (exfalso; omega))) | (refine plan_q rfl rfl ?_)))
    clear y_n_0 y_n_1 y_n_2 y_n_3 y_n_4
    all_goals refine plan_done ?_
    all_goals (try simp only [List.drop_succ_cons, List.drop_zero])
    all_goals (try go_wp2_with fail)
    all_goals refine NoPanic.normal ?_
    all_goals (try go_wp2_with fail)
    replace h0 : ([] : List Rw).length = 0 := rfl
    obtain ⟨V, hV⟩ : ∃ V, wb.drew = V := ⟨_, rfl⟩
    have HB_V : Below w.heap.size w V := hV ▸ HB_wb.drew
    have H_V : Box V w.heap.size 94 [.int .i64 r0, .int .i64 r1, .int .i64 r2, .int .i64 r3, .int .i64 r4] := hV ▸ H_n.out.drew
    first | rw [hV] | rw [show ({ heap := wb.heap, tape := wb.tape, drawn := wb.drawn + 1, os := wb.os, output := wb.output } : World) = V from hV]
    clear hV
    obtain ⟨n_0, n_1, n_2, n_3, n_4⟩ := H_V.c5
    have HCV := Lib.hid (fun W (hW : Below V.heap.size V W) => HCL.out W (after0 HB_V hW))
    clear HV HRB HCL HK H_n H_V HS HB_wb hb_wb HB_wa hb_wa HB_W0
    have y_n_0 := cell_regrown n_0
    have y_n_1 := cell_regrown n_1
    have y_n_2 := cell_regrown n_2
    have y_n_3 := cell_regrown n_3
    have y_n_4 := cell_regrown n_4
    clear n_0 n_1 n_2 n_3 n_4
    refine wp_region_plan (C := fun w' => ∃ p : Regrown, w' = grow (redrawn V p.d) p.os) (.q 0 (.q 2 (.two 1 (.e 3 (.e 4 (.q 5 (.q 6 (.done))))) 3 (.e 1 (.e 4 (.q 5 (.q 6 (.done)))))))) 7 (by kernel_rfl) (by kernel_rfl) (grew_drew _) ?_
    repeat (any_goals (first | (go_big_quiet_skip; refine wpQuiet_nil ?_) | (go_big_quiet_want; go_big_quiet_op; go_big_quiet_on; refine wpQuiet_nil ?_) | ((with_reducible apply q_split); exact rfl; intro q hq; cases q <;> (rw [hq]; (try first | replace hq := bnot_t hq | replace hq := bnot_f hq); (try first | replace hq := of_decide_eq_true hq | replace hq := of_decide_eq_false hq | replace hq := eq_of_beq hq); (try first | replace hq := Int.not_lt.1 hq | replace hq := Int.not_le.1 hq | replace hq := Nat.not_lt.1 hq | replace hq := Nat.not_le.1 hq); try (exfalso; omega))) | (refine plan_q rfl rfl ?_)))
    obtain ⟨U, hU⟩ : ∃ U, V.drew = U := ⟨_, rfl⟩
    rw [show { heap := V.heap, tape := V.tape, drawn := V.drawn + 1, os := V.os, output := V.output } = U from hU]
    have HW_U : Below V.heap.size V U := hU ▸ below_drew
    clear hU
    refine plan_two rfl rfl ?_ ?_
    · go_wp2_with fail
      refine (HCV.out U HW_U).mono ?_
      rintro e w1 ⟨v1, rfl, ho1, hb1⟩
      have HW_1 := HW_U.trans (hb1.mono HW_U.size)
      go_wp2_with fail
      refine MixPost.intro (grew_of_below HW_1) ?_
      repeat (any_goals (first | (go_big_quiet_skip; refine wpQuiet_nil ?_) | (go_big_quiet_want; go_big_quiet_op; go_big_quiet_on; refine wpQuiet_nil ?_) | ((with_reducible apply q_split); exact rfl; intro q hq; cases q <;> (rw [hq]; (try first | replace hq := bnot_t hq | replace hq := bnot_f hq); (try first | replace hq := of_decide_eq_true hq | replace hq := of_decide_eq_false hq | replace hq := eq_of_beq hq); (try first | replace hq := Int.not_lt.1 hq | replace hq := Int.not_le.1 hq | replace hq := Nat.not_lt.1 hq | replace hq := Nat.not_le.1 hq); try (exfalso; omega))) | (refine plan_q rfl rfl ?_)))
      refine plan_e rfl ?_
      obtain ⟨w2, hw2, hB2, hZ2, hb2⟩ := boxes1 w1 [.int .i64 r0, .int .i64 r1, .int .i64 r2, .int .i64 r3, .int .i64 r4] 94
      have HX := Lib.hid (show Sl w2 5 cRw (some ⟨w1.heap.size, 0, none⟩) 1 1 [(⟨r0, r1, r2, r3, r4⟩ : Rw)] from Sl.one (x := (⟨r0, r1, r2, r3, r4⟩ : Rw)) cRw_len hb2)
      have HO := Lib.hid ((ho1.mono HW_U.size).below hB2)
      have HW_2 := HW_1.trans (hB2.mono HW_1.size)
      clear hB2 hZ2 hb2 ho1 hb1
      go_wp2_with fail
      clear hw2
      refine MixPost.intro (grew_of_below HW_2) ?_
      repeat (any_goals (first | (go_big_quiet_skip; refine wpQuiet_nil ?_) | (go_big_quiet_want; go_big_quiet_op; go_big_quiet_on; refine wpQuiet_nil ?_) | ((with_reducible apply q_split); exact rfl; intro q hq; cases q <;> (rw [hq]; (try first | replace hq := bnot_t hq | replace hq := bnot_f hq); (try first | replace hq := of_decide_eq_true hq | replace hq := of_decide_eq_false hq | replace hq := eq_of_beq hq); (try first | replace hq := Int.not_lt.1 hq | replace hq := Int.not_le.1 hq | replace hq := Nat.not_lt.1 hq | replace hq := Nat.not_le.1 hq); try (exfalso; omega))) | (refine plan_q rfl rfl ?_)))
      refine plan_e rfl ?_
      go_wp2_with (at_builtin; refine wpList_append_sl rfl _ _ 61 rfl V.heap.size 94 i0 _ 5 40 Try.underlying61 HI.out HZ0.out HZ1.out HZ2.out rfl (by decide) cRw_len cRw_one _ ([] : List Rw) rfl HO.out (some ⟨w1.heap.size, 0, none⟩) 1 1 [⟨r0, r1, r2, r3, r4⟩] rfl HX.out (by unfold maxLen; first | omega | (simp <;> omega)) (by first | omega | (simp <;> omega)) HW_2.size ?_)
      rintro v' w6 ho6 hg6 hgr6
      have HW_6 := HW_2.trans (hg6 _ (Nat.le_refl _))
      refine MixPost.intro (grew_of_below HW_6) ?_
      repeat (any_goals (first | (go_big_quiet_skip; refine wpQuiet_nil ?_) | (go_big_quiet_want; go_big_quiet_op; go_big_quiet_on; refine wpQuiet_nil ?_) | ((with_reducible apply q_split); exact rfl; intro q hq; cases q <;> (rw [hq]; (try first | replace hq := bnot_t hq | replace hq := bnot_f hq); (try first | replace hq := of_decide_eq_true hq | replace hq := of_decide_eq_false hq | replace hq := eq_of_beq hq); (try first | replace hq := Int.not_lt.1 hq | replace hq := Int.not_le.1 hq | replace hq := Nat.not_lt.1 hq | replace hq := Nat.not_le.1 hq); try (exfalso; omega))) | (refine plan_q rfl rfl ?_)))
      refine plan_done ?_
      try simp only [List.drop_succ_cons, List.drop_zero]
      clear y_n_0 y_n_1 y_n_2 y_n_3 y_n_4
      go_wp2_with fail
      refine NoPanic.normal ?_
      go_wp2_with fail
      go_ret2
      exact ⟨_, rfl, OwnL.mono (show OwnL w6 V.heap.size 94 5 cRw v' (([] : List Rw) ++ [(⟨r0, r1, r2, r3, r4⟩ : Rw)]) from ho6) HB_V.size, after0 HB_V HW_6⟩
    · obtain ⟨w2, hw2, hB2, hZ2, hb2⟩ := boxes1 U [.int .i64 r0, .int .i64 r1, .int .i64 r2, .int .i64 r3, .int .i64 r4] 94
      have HW_2 := HW_U.trans (hB2.mono HW_U.size)
      clear hB2 hZ2
      go_wp2_with fail
      clear hw2
      refine MixPost.intro (grew_of_below HW_2) ?_
      repeat (any_goals (first | (go_big_quiet_skip; refine wpQuiet_nil ?_) | (go_big_quiet_want; go_big_quiet_op; go_big_quiet_on; refine wpQuiet_nil ?_) | ((with_reducible apply q_split); exact rfl; intro q hq; cases q <;> (rw [hq]; (try first | replace hq := bnot_t hq | replace hq := bnot_f hq); (try first | replace hq := of_decide_eq_true hq | replace hq := of_decide_eq_false hq | replace hq := eq_of_beq hq); (try first | replace hq := Int.not_lt.1 hq | replace hq := Int.not_le.1 hq | replace hq := Nat.not_lt.1 hq | replace hq := Nat.not_le.1 hq); try (exfalso; omega))) | (refine plan_q rfl rfl ?_)))
      refine plan_e rfl ?_
      go_wp2_with fail
      refine (HCV.out w2 HW_2).mono ?_
      rintro e w1 ⟨v1, rfl, ho1, hb1⟩
      have HW_1 := HW_2.trans (hb1.mono HW_2.size)
      have HX := Lib.hid (show Sl w1 5 cRw (some ⟨U.heap.size, 0, none⟩) 1 1 [(⟨r0, r1, r2, r3, r4⟩ : Rw)] from Sl.one (x := (⟨r0, r1, r2, r3, r4⟩ : Rw)) cRw_len (hb2.below hb1))
      have HO := Lib.hid (ho1.mono HW_2.size)
      clear ho1 hb1 hb2
      go_wp2_with fail
      refine MixPost.intro (grew_of_below HW_1) ?_
      repeat (any_goals (first | (go_big_quiet_skip; refine wpQuiet_nil ?_) | (go_big_quiet_want; go_big_quiet_op; go_big_quiet_on; refine wpQuiet_nil ?_) | ((with_reducible apply q_split); exact rfl; intro q hq; cases q <;> (rw [hq]; (try first | replace hq := bnot_t hq | replace hq := bnot_f hq); (try first | replace hq := of_decide_eq_true hq | replace hq := of_decide_eq_false hq | replace hq := eq_of_beq hq); (try first | replace hq := Int.not_lt.1 hq | replace hq := Int.not_le.1 hq | replace hq := Nat.not_lt.1 hq | replace hq := Nat.not_le.1 hq); try (exfalso; omega))) | (refine plan_q rfl rfl ?_)))
      refine plan_e rfl ?_
      go_wp2_with (at_builtin; refine wpList_append_sl rfl _ _ 61 rfl V.heap.size 94 i0 _ 5 40 Try.underlying61 HI.out HZ0.out HZ1.out HZ2.out rfl (by decide) cRw_len cRw_one _ ([] : List Rw) rfl HO.out (some ⟨U.heap.size, 0, none⟩) 1 1 [⟨r0, r1, r2, r3, r4⟩] rfl HX.out (by unfold maxLen; first | omega | (simp <;> omega)) (by first | omega | (simp <;> omega)) HW_1.size ?_)
      rintro v' w6 ho6 hg6 hgr6
      have HW_6 := HW_1.trans (hg6 _ (Nat.le_refl _))
      refine MixPost.intro (grew_of_below HW_6) ?_
      repeat (any_goals (first | (go_big_quiet_skip; refine wpQuiet_nil ?_) | (go_big_quiet_want; go_big_quiet_op; go_big_quiet_on; refine wpQuiet_nil ?_) | ((with_reducible apply q_split); exact rfl; intro q hq; cases q <;> (rw [hq]; (try first | replace hq := bnot_t hq | replace hq := bnot_f hq); (try first | replace hq := of_decide_eq_true hq | replace hq := of_decide_eq_false hq | replace hq := eq_of_beq hq); (try first | replace hq := Int.not_lt.1 hq | replace hq := Int.not_le.1 hq | replace hq := Nat.not_lt.1 hq | replace hq := Nat.not_le.1 hq); try (exfalso; omega))) | (refine plan_q rfl rfl ?_)))
      refine plan_done ?_
      try simp only [List.drop_succ_cons, List.drop_zero]
      clear y_n_0 y_n_1 y_n_2 y_n_3 y_n_4
      go_wp2_with fail
      refine NoPanic.normal ?_
      go_wp2_with fail
      go_ret2
      exact ⟨_, rfl, OwnL.mono (show OwnL w6 V.heap.size 94 5 cRw v' (([] : List Rw) ++ [(⟨r0, r1, r2, r3, r4⟩ : Rw)]) from ho6) HB_V.size, after0 HB_V HW_6⟩
  · obtain ⟨k, hk⟩ : ∃ k, l.length = k + 1 := ⟨l.length - 1, by omega⟩
    have hkl : k < l.length := by omega
    obtain ⟨b', off, e', hb, hrow⟩ := (HS.out.below HB_wb).get hkl
    obtain ⟨e_0, e_1, e_2, e_3, e_4⟩ := (hrow k hkl).c5
    have hle := HK.out k hkl
    subst e'
    clear hrow
    generalize l[k] = q at *
    obtain ⟨q0, q1, q2, q3, q4⟩ := q
    dsimp only at e_0 e_1 e_2 e_3 e_4 hle
    rw [hk] at hne hnl ⊢
    have y_n_0 := cell_regrown n_0
    have y_n_1 := cell_regrown n_1
    have y_n_2 := cell_regrown n_2
    have y_n_3 := cell_regrown n_3
    have y_n_4 := cell_regrown n_4
    clear n_0 n_1 n_2 n_3 n_4
    have y_e_0 := cell_regrown e_0
    have y_e_1 := cell_regrown e_1
    have y_e_2 := cell_regrown e_2
    have y_e_3 := cell_regrown e_3
    have y_e_4 := cell_regrown e_4
    clear e_0 e_1 e_2 e_3 e_4
    refine wp_region_plan (C := fun w' => ∃ p : Regrown, w' = grow (redrawn wb p.d) p.os) (.q 0 (.q 1 (.q 2 (.q 3 (.q 4 (.q 5 (.q 6 (.q 7 (.q 8 (.q 9 (.q 10 (.q 11 (.q 12 (.q 13 (.done))))))))))))))) 14 (by kernel_rfl) (by kernel_rfl) (grew_drew _) ?_
    repeat (any_goals (first | (go_big_quiet_skip; refine wpQuiet_nil ?_) | (go_big_quiet_want; go_big_quiet_op; go_big_quiet_on; refine wpQuiet_nil ?_) | ((with_reducible apply q_split); exact rfl; intro q hq; cases q <;> (rw [hq]; (try first | replace hq := bnot_t hq | replace hq := bnot_f hq); (try first | replace hq := of_decide_eq_true hq | replace hq := of_decide_eq_false hq | replace hq := eq_of_beq hq); (try first | replace hq := Int.not_lt.1 hq | replace hq := Int.not_le.1 hq | replace hq := Nat.not_lt.1 hq | replace hq := Nat.not_le.1 hq); try (exfalso; omega))) | (refine plan_q rfl rfl ?_)))
    clear y_e_0 y_e_1 y_e_2 y_e_3 y_e_4
    clear y_n_0 y_n_1 y_n_2 y_n_3 y_n_4
    all_goals refine plan_done ?_
    all_goals (try simp only [List.drop_succ_cons, List.drop_zero])
    all_goals (try go_wp2_with fail)
    all_goals refine NoPanic.normal ?_
    all_goals (try go_wp2_with fail)
    replace h0 := hk
    rw [hk] at HCL
    clear hle hb
    obtain ⟨V, hV⟩ : ∃ V, wb.drew = V := ⟨_, rfl⟩
    have HB_V : Below w.heap.size w V := hV ▸ HB_wb.drew
    have H_V : Box V w.heap.size 94 [.int .i64 r0, .int .i64 r1, .int .i64 r2, .int .i64 r3, .int .i64 r4] := hV ▸ H_n.out.drew
    first | rw [hV] | rw [show ({ heap := wb.heap, tape := wb.tape, drawn := wb.drawn + 1, os := wb.os, output := wb.output } : World) = V from hV]
    clear hV
    obtain ⟨n_0, n_1, n_2, n_3, n_4⟩ := H_V.c5
    have HCV := Lib.hid (fun W (hW : Below V.heap.size V W) => HCL.out W (after0 HB_V hW))
    clear HV HRB HCL HK H_n H_V HS HB_wb hb_wb HB_wa hb_wa HB_W0
    have y_n_0 := cell_regrown n_0
    have y_n_1 := cell_regrown n_1
    have y_n_2 := cell_regrown n_2
    have y_n_3 := cell_regrown n_3
    have y_n_4 := cell_regrown n_4
    clear n_0 n_1 n_2 n_3 n_4
    refine wp_region_plan (C := fun w' => ∃ p : Regrown, w' = grow (redrawn V p.d) p.os) (.q 0 (.q 2 (.two 1 (.e 3 (.e 4 (.q 5 (.q 6 (.done))))) 3 (.e 1 (.e 4 (.q 5 (.q 6 (.done)))))))) 7 (by kernel_rfl) (by kernel_rfl) (grew_drew _) ?_
    repeat (any_goals (first | (go_big_quiet_skip; refine wpQuiet_nil ?_) | (go_big_quiet_want; go_big_quiet_op; go_big_quiet_on; refine wpQuiet_nil ?_) | ((with_reducible apply q_split); exact rfl; intro q hq; cases q <;> (rw [hq]; (try first | replace hq := bnot_t hq | replace hq := bnot_f hq); (try first | replace hq := of_decide_eq_true hq | replace hq := of_decide_eq_false hq | replace hq := eq_of_beq hq); (try first | replace hq := Int.not_lt.1 hq | replace hq := Int.not_le.1 hq | replace hq := Nat.not_lt.1 hq | replace hq := Nat.not_le.1 hq); try (exfalso; omega))) | (refine plan_q rfl rfl ?_)))
    obtain ⟨U, hU⟩ : ∃ U, V.drew = U := ⟨_, rfl⟩
    rw [show { heap := V.heap, tape := V.tape, drawn := V.drawn + 1, os := V.os, output := V.output } = U from hU]
    have HW_U : Below V.heap.size V U := hU ▸ below_drew
    clear hU
    refine plan_two rfl rfl ?_ ?_
    · go_wp2_with fail
      refine (HCV.out U HW_U).mono ?_
      rintro e w1 ⟨v1, rfl, ho1, hb1⟩
      have HW_1 := HW_U.trans (hb1.mono HW_U.size)
      go_wp2_with fail
      refine MixPost.intro (grew_of_below HW_1) ?_
      repeat (any_goals (first | (go_big_quiet_skip; refine wpQuiet_nil ?_) | (go_big_quiet_want; go_big_quiet_op; go_big_quiet_on; refine wpQuiet_nil ?_) | ((with_reducible apply q_split); exact rfl; intro q hq; cases q <;> (rw [hq]; (try first | replace hq := bnot_t hq | replace hq := bnot_f hq); (try first | replace hq := of_decide_eq_true hq | replace hq := of_decide_eq_false hq | replace hq := eq_of_beq hq); (try first | replace hq := Int.not_lt.1 hq | replace hq := Int.not_le.1 hq | replace hq := Nat.not_lt.1 hq | replace hq := Nat.not_le.1 hq); try (exfalso; omega))) | (refine plan_q rfl rfl ?_)))
      refine plan_e rfl ?_
      obtain ⟨w2, hw2, hB2, hZ2, hb2⟩ := boxes1 w1 [.int .i64 r0, .int .i64 r1, .int .i64 r2, .int .i64 r3, .int .i64 r4] 94
      have HX := Lib.hid (show Sl w2 5 cRw (some ⟨w1.heap.size, 0, none⟩) 1 1 [(⟨r0, r1, r2, r3, r4⟩ : Rw)] from Sl.one (x := (⟨r0, r1, r2, r3, r4⟩ : Rw)) cRw_len hb2)
      have HO := Lib.hid ((ho1.mono HW_U.size).below hB2)
      have HW_2 := HW_1.trans (hB2.mono HW_1.size)
      clear hB2 hZ2 hb2 ho1 hb1
      go_wp2_with fail
      clear hw2
      refine MixPost.intro (grew_of_below HW_2) ?_
      repeat (any_goals (first | (go_big_quiet_skip; refine wpQuiet_nil ?_) | (go_big_quiet_want; go_big_quiet_op; go_big_quiet_on; refine wpQuiet_nil ?_) | ((with_reducible apply q_split); exact rfl; intro q hq; cases q <;> (rw [hq]; (try first | replace hq := bnot_t hq | replace hq := bnot_f hq); (try first | replace hq := of_decide_eq_true hq | replace hq := of_decide_eq_false hq | replace hq := eq_of_beq hq); (try first | replace hq := Int.not_lt.1 hq | replace hq := Int.not_le.1 hq | replace hq := Nat.not_lt.1 hq | replace hq := Nat.not_le.1 hq); try (exfalso; omega))) | (refine plan_q rfl rfl ?_)))
      refine plan_e rfl ?_
      go_wp2_with (at_builtin; refine wpList_append_sl rfl _ _ 61 rfl V.heap.size 94 i0 _ 5 40 Try.underlying61 HI.out HZ0.out HZ1.out HZ2.out rfl (by decide) cRw_len cRw_one _ l rfl HO.out (some ⟨w1.heap.size, 0, none⟩) 1 1 [⟨r0, r1, r2, r3, r4⟩] rfl HX.out (by unfold maxLen; first | omega | (simp <;> omega)) (by first | omega | (simp <;> omega)) HW_2.size ?_)
      rintro v' w6 ho6 hg6 hgr6
      have HW_6 := HW_2.trans (hg6 _ (Nat.le_refl _))
      refine MixPost.intro (grew_of_below HW_6) ?_
      repeat (any_goals (first | (go_big_quiet_skip; refine wpQuiet_nil ?_) | (go_big_quiet_want; go_big_quiet_op; go_big_quiet_on; refine wpQuiet_nil ?_) | ((with_reducible apply q_split); exact rfl; intro q hq; cases q <;> (rw [hq]; (try first | replace hq := bnot_t hq | replace hq := bnot_f hq); (try first | replace hq := of_decide_eq_true hq | replace hq := of_decide_eq_false hq | replace hq := eq_of_beq hq); (try first | replace hq := Int.not_lt.1 hq | replace hq := Int.not_le.1 hq | replace hq := Nat.not_lt.1 hq | replace hq := Nat.not_le.1 hq); try (exfalso; omega))) | (refine plan_q rfl rfl ?_)))
      refine plan_done ?_
      try simp only [List.drop_succ_cons, List.drop_zero]
      clear y_n_0 y_n_1 y_n_2 y_n_3 y_n_4
      go_wp2_with fail
      refine NoPanic.normal ?_
      go_wp2_with fail
      go_ret2
      exact ⟨_, rfl, OwnL.mono (show OwnL w6 V.heap.size 94 5 cRw v' (l ++ [(⟨r0, r1, r2, r3, r4⟩ : Rw)]) from ho6) HB_V.size, after0 HB_V HW_6⟩
    · obtain ⟨w2, hw2, hB2, hZ2, hb2⟩ := boxes1 U [.int .i64 r0, .int .i64 r1, .int .i64 r2, .int .i64 r3, .int .i64 r4] 94
      have HW_2 := HW_U.trans (hB2.mono HW_U.size)
      clear hB2 hZ2
      go_wp2_with fail
      clear hw2
      refine MixPost.intro (grew_of_below HW_2) ?_
      repeat (any_goals (first | (go_big_quiet_skip; refine wpQuiet_nil ?_) | (go_big_quiet_want; go_big_quiet_op; go_big_quiet_on; refine wpQuiet_nil ?_) | ((with_reducible apply q_split); exact rfl; intro q hq; cases q <;> (rw [hq]; (try first | replace hq := bnot_t hq | replace hq := bnot_f hq); (try first | replace hq := of_decide_eq_true hq | replace hq := of_decide_eq_false hq | replace hq := eq_of_beq hq); (try first | replace hq := Int.not_lt.1 hq | replace hq := Int.not_le.1 hq | replace hq := Nat.not_lt.1 hq | replace hq := Nat.not_le.1 hq); try (exfalso; omega))) | (refine plan_q rfl rfl ?_)))
      refine plan_e rfl ?_
      go_wp2_with fail
      refine (HCV.out w2 HW_2).mono ?_
      rintro e w1 ⟨v1, rfl, ho1, hb1⟩
      have HW_1 := HW_2.trans (hb1.mono HW_2.size)
      have HX := Lib.hid (show Sl w1 5 cRw (some ⟨U.heap.size, 0, none⟩) 1 1 [(⟨r0, r1, r2, r3, r4⟩ : Rw)] from Sl.one (x := (⟨r0, r1, r2, r3, r4⟩ : Rw)) cRw_len (hb2.below hb1))
      have HO := Lib.hid (ho1.mono HW_2.size)
      clear ho1 hb1 hb2
      go_wp2_with fail
      refine MixPost.intro (grew_of_below HW_1) ?_
      repeat (any_goals (first | (go_big_quiet_skip; refine wpQuiet_nil ?_) | (go_big_quiet_want; go_big_quiet_op; go_big_quiet_on; refine wpQuiet_nil ?_) | ((with_reducible apply q_split); exact rfl; intro q hq; cases q <;> (rw [hq]; (try first | replace hq := bnot_t hq | replace hq := bnot_f hq); (try first | replace hq := of_decide_eq_true hq | replace hq := of_decide_eq_false hq | replace hq := eq_of_beq hq); (try first | replace hq := Int.not_lt.1 hq | replace hq := Int.not_le.1 hq | replace hq := Nat.not_lt.1 hq | replace hq := Nat.not_le.1 hq); try (exfalso; omega))) | (refine plan_q rfl rfl ?_)))
      refine plan_e rfl ?_
      go_wp2_with (at_builtin; refine wpList_append_sl rfl _ _ 61 rfl V.heap.size 94 i0 _ 5 40 Try.underlying61 HI.out HZ0.out HZ1.out HZ2.out rfl (by decide) cRw_len cRw_one _ l rfl HO.out (some ⟨U.heap.size, 0, none⟩) 1 1 [⟨r0, r1, r2, r3, r4⟩] rfl HX.out (by unfold maxLen; first | omega | (simp <;> omega)) (by first | omega | (simp <;> omega)) HW_1.size ?_)
      rintro v' w6 ho6 hg6 hgr6
      have HW_6 := HW_1.trans (hg6 _ (Nat.le_refl _))
      refine MixPost.intro (grew_of_below HW_6) ?_
      repeat (any_goals (first | (go_big_quiet_skip; refine wpQuiet_nil ?_) | (go_big_quiet_want; go_big_quiet_op; go_big_quiet_on; refine wpQuiet_nil ?_) | ((with_reducible apply q_split); exact rfl; intro q hq; cases q <;> (rw [hq]; (try first | replace hq := bnot_t hq | replace hq := bnot_f hq); (try first | replace hq := of_decide_eq_true hq | replace hq := of_decide_eq_false hq | replace hq := eq_of_beq hq); (try first | replace hq := Int.not_lt.1 hq | replace hq := Int.not_le.1 hq | replace hq := Nat.not_lt.1 hq | replace hq := Nat.not_le.1 hq); try (exfalso; omega))) | (refine plan_q rfl rfl ?_)))
      refine plan_done ?_
      try simp only [List.drop_succ_cons, List.drop_zero]
      clear y_n_0 y_n_1 y_n_2 y_n_3 y_n_4
      go_wp2_with fail
      refine NoPanic.normal ?_
      go_wp2_with fail
      go_ret2
      exact ⟨_, rfl, OwnL.mono (show OwnL w6 V.heap.size 94 5 cRw v' (l ++ [(⟨r0, r1, r2, r3, r4⟩ : Rw)]) from ho6) HB_V.size, after0 HB_V HW_6⟩
end Go.Proofs.Ytmbnhlihcnbebaa
