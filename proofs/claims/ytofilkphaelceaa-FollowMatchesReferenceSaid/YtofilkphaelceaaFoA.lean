/-
  Walks of the layer 'follow': isNumber, rises, all, newSet, Valid, isDone.
-/
import Derived.Test.YtofilkphaelceaaFo
import Derived.Test.YtofilkphaelceaaFoM
import Derived.Test.YtofilkphaelceaaPlan
import Derived.Test.YtofilkphaelceaaApp
import Derived.Test.YtofilkphaelceaaStore
set_option linter.unusedVariables false
namespace Go.Proofs.Ytofilkphaelceaa
open Go Go.RowKit Fo Sk Go.Sort

abbrev cI (x : Int) : List Value := [.int .i64 x]
abbrev cS (s : St) : List Value := [.int .i64 s.n, .slice s.ao s.k s.cap]
abbrev eS (s : St) : Value := .agg #[.int .i64 s.n, .slice s.ao s.k s.cap]
theorem cI_len : ∀ x, (cI x).length = 1 := fun _ => rfl
theorem cI_one : ∀ x, ∀ u ∈ cI x, u.oneCell' = true := by intro x u hu; simp [cI] at hu; subst hu; rfl
theorem cS_len : ∀ x, (cS x).length = 2 := fun _ => rfl
theorem info_int : (Try.prog.info? 3).map (fun i => (i.zero, i.size, i.bytes)) = some (some (.int .i64 0), 1, 8) := by kernel_rfl
/-- the numbers of a step read as a list, each an int64 -/
def StOk (w : World) (s : St) : Prop := Sl w 1 cI s.ao s.k s.cap s.af ∧ ∀ a ∈ s.af, I64 a
theorem StOk.below {w w' : World} {s : St} (h : StOk w s) (hb : Below w.heap.size w w') : StOk w' s := ⟨h.1.below hb, h.2⟩
/-- a slice of steps -/
def SlS (w : World) (ao : Option Addr) (n cap : Nat) (l : List St) : Prop := Sl w 2 cS ao n cap l ∧ ∀ s ∈ l, StOk w s
theorem SlS.below {w w' : World} {ao : Option Addr} {n cap : Nat} {l : List St} (h : SlS w ao n cap l) (hb : Below w.heap.size w w') : SlS w' ao n cap l := ⟨h.1.below hb, fun s hs => (h.2 s hs).below hb⟩
theorem SetOf.low {w w' : World} {B b n : Nat} {S : Int → Bool} (h : SetOf w b n S) (hb : Below B w w') (hlt : b < B) : SetOf w' b n S := by
  obtain ⟨D, ⟨es, clock, h1, h2⟩, r⟩ := h
  exact ⟨D, ⟨es, clock, (hb.block b hlt).trans h1, h2⟩, r⟩
/-- a row behind a map that is written -/
theorem own_past {α : Type} {enc : α → List Value} {w w' : World} {base e size b : Nat} {v : Value} {ys : List α} (h : OwnL w base e size enc v ys) (hg : w.grownBy w' (some b)) (hb : b < base) : OwnL w' base e size enc v ys := by
  refine ⟨h.1, ?_⟩
  rcases h.2 with hn | ⟨g, cap, cur, rfl, hbg, hgg, rest⟩
  · exact .inl hn
  · exact .inr ⟨g, cap, cur, rfl, hbg, (hg.block g (Array.getElem?_eq_some_iff.1 hgg).1 (by simp; omega)).trans hgg, rest⟩
theorem i64_num {n : Int} (h : isNum n = true) : I64 n := by
  have := isNum_iff.1 h
  exact i64_of (by omega) (by omega)

theorem isNumber_any (n : Int) (w : World) : Calls Try.prog 35 #[.int .i64 n] w (Ret w (.bool (isNum n))) := by
  go_enter Try.func35, Try.ntmps35
  go_wp2
  all_goals
    go_ret
    refine ⟨ret_bool ?_, (Below.refl _ _)⟩
    simp [isNum]; omega

set_option maxRecDepth 100000 in
set_option maxHeartbeats 1000000 in
theorem rises_any (ao : Option Addr) (n cap : Nat) (l : List Int) (w : World) (hs : Sl w 1 cI ao n cap l) : Calls Try.prog 36 #[.slice ao n cap] w (Ret w (.bool (risesB l))) := by
  obtain rfl := hs.len
  have hcap := hs.max
  have hle := hs.le
  unfold maxLen at hcap
  have HS := Lib.hid hs
  have HT := Lib.hid (show (∀ (i : Nat) (h : i + 1 < l.length), l[i] < l[i + 1]) → risesB l = true from fun h => risesB_iff.2 (pair_adj (f := fun x => x) l h))
  have HF := Lib.hid (show ∀ (i : Nat) (h : i + 1 < l.length), l[i + 1] ≤ l[i] → risesB l = false from fun i h hle => by
    cases hr : risesB l with
    | false => rfl
    | true =>
      have := List.pairwise_iff_getElem.1 (risesB_iff.1 hr) i (i + 1) (by omega) h (by omega)
      omega)
  clear hs
  generalize risesB l = v at *
  go_enter Try.func36, Try.ntmps36
  go_wp2_with fail
  go_loopw [3] (fun i wr => ∃ k : Nat, (l.length = 0 ∨ k + 1 ≤ l.length) ∧ i = .int .i64 (k + 1 : Nat) ∧ Below w.heap.size w wr ∧ Hid (∀ (i : Nat) (h : i + 1 < l.length), i < k → l[i] < l[i + 1])) (fun i _ => l.length + 1 - (intOf i).toNat)
  case atStart => exact ⟨0, by omega, rfl, Below.refl _ _, fun i _ h => absurd h (Nat.not_lt_zero _)⟩
  case round =>
    obtain ⟨k, hk, rfl, HB_wr, HJ⟩ := hrel
    by_cases hlt : k + 1 < l.length
    · obtain ⟨b, off, rfl, hb, hrow⟩ := HS.out.get hlt
      have e_0 := ((hrow (k + 1) hlt).below HB_wr hb).c1
      have f_0 := ((hrow k (by omega)).below HB_wr hb).c1
      rw [Nat.mul_one] at e_0 f_0
      have HN := Lib.hid (show l[k] < l[k + 1] → ∀ (i : Nat) (h : i + 1 < l.length), i < k + 1 → l[i] < l[i + 1] from fun h0 i h hi => by
        rcases Nat.lt_succ_iff_lt_or_eq.1 hi with h1 | rfl
        · exact HJ.out i h h1
        · exact h0)
      have HFK := Lib.hid (HF.out k hlt)
      clear hrow
      generalize l[k + 1] = y at *
      generalize l[k] = x at *
      by_cases hxy : y ≤ x
      · have HP := Lib.hid (HFK.out hxy)
        go_wp2_with fail
        have y_e_0 := cell_regrown e_0
        clear e_0
        have y_f_0 := cell_regrown f_0
        clear f_0
        refine wp_region_plan (C := fun w' => ∃ p : Regrown, w' = grow (redrawn wr p.d) p.os) (.q 0 (.q 1 (.q 2 (.q 3 (.q 4 (.q 5 (.q 6 (.q 7 (.q 8 (.q 9 (.done))))))))))) 10 (by kernel_rfl) (by kernel_rfl) (grew_drew _) ?_
        repeat (any_goals (first | (go_big_quiet_skip; refine wpQuiet_nil ?_) | (go_big_quiet_want; go_big_quiet_op; go_big_quiet_on; refine wpQuiet_nil ?_) | ((with_reducible apply q_split); exact rfl; intro q hq; cases q <;> (rw [hq]; (try first | replace hq := bnot_t hq | replace hq := bnot_f hq); (try first | replace hq := of_decide_eq_true hq | replace hq := of_decide_eq_false hq | replace hq := eq_of_beq hq); (try first | replace hq := Int.not_lt.1 hq | replace hq := Int.not_le.1 hq | replace hq := Nat.not_lt.1 hq | replace hq := Nat.not_le.1 hq); try (exfalso; omega))) | (refine plan_q rfl rfl ?_)))
        clear y_e_0
        clear y_f_0
        all_goals refine plan_done ?_
        all_goals (try simp only [List.drop_succ_cons, List.drop_zero])
        all_goals (try go_wp2_with fail)
        all_goals refine NoPanic.normal ?_
        all_goals (try go_wp2_with fail)
        go_ret
        exact ⟨ret_bool' HP.out.symm, HB_wr.drew⟩
      · have HN2 := Lib.hid (HN.out (by omega))
        replace hxy := Int.not_le.1 hxy
        go_wp2_with fail
        have y_e_0 := cell_regrown e_0
        clear e_0
        have y_f_0 := cell_regrown f_0
        clear f_0
        refine wp_region_plan (C := fun w' => ∃ p : Regrown, w' = grow (redrawn wr p.d) p.os) (.q 0 (.q 1 (.q 2 (.q 3 (.q 4 (.q 5 (.q 6 (.q 7 (.q 8 (.q 9 (.done))))))))))) 10 (by kernel_rfl) (by kernel_rfl) (grew_drew _) ?_
        repeat (any_goals (first | (go_big_quiet_skip; refine wpQuiet_nil ?_) | (go_big_quiet_want; go_big_quiet_op; go_big_quiet_on; refine wpQuiet_nil ?_) | ((with_reducible apply q_split); exact rfl; intro q hq; cases q <;> (rw [hq]; (try first | replace hq := bnot_t hq | replace hq := bnot_f hq); (try first | replace hq := of_decide_eq_true hq | replace hq := of_decide_eq_false hq | replace hq := eq_of_beq hq); (try first | replace hq := Int.not_lt.1 hq | replace hq := Int.not_le.1 hq | replace hq := Nat.not_lt.1 hq | replace hq := Nat.not_le.1 hq); try (exfalso; omega))) | (refine plan_q rfl rfl ?_)))
        clear y_e_0
        clear y_f_0
        all_goals refine plan_done ?_
        all_goals (try simp only [List.drop_succ_cons, List.drop_zero])
        all_goals (try go_wp2_with fail)
        all_goals refine NoPanic.normal ?_
        all_goals (try go_wp2_with fail)
        go_roundw
        case rel => exact ⟨k + 1, by omega, by go_num, HB_wr.drew, HN2⟩
        case measure => simp [intOf]; omega
    · have HP := Lib.hid (HT.out (fun i h => HJ.out i h (by omega)))
      go_wp2_with fail
      go_ret
      exact ⟨ret_bool' HP.out.symm, HB_wr⟩

set_option maxRecDepth 100000 in
set_option maxHeartbeats 1000000 in
theorem all_any (b m : Nat) (S : Int → Bool) (ao : Option Addr) (n cap : Nat) (l : List Int) (w : World) (hset : SetOf w b m S) (hs : Sl w 1 cI ao n cap l) (h64 : ∀ a ∈ l, I64 a) :
    Calls Try.prog 37 #[.map (some b), .slice ao n cap] w (Ret w (.bool (l.all S))) := by
  obtain rfl := hs.len
  have hcap := hs.max
  have hle := hs.le
  unfold maxLen at hcap
  have HS := Lib.hid hs
  have HSET := Lib.hid hset
  have H64 := Lib.hid h64
  have HT := Lib.hid (show (∀ (i : Nat) (h : i < l.length), S l[i] = true) → l.all S = true from fun h => by
    rw [List.all_eq_true]
    intro x hx
    obtain ⟨i, hi, rfl⟩ := List.getElem_of_mem hx
    exact h i hi)
  have HF := Lib.hid (show ∀ (i : Nat) (h : i < l.length), S l[i] = false → l.all S = false from fun i h hb => by
    rw [List.all_eq_false]
    exact ⟨l[i], List.getElem_mem h, by rw [hb]; simp⟩)
  clear hs hset h64
  generalize l.all S = v at *
  go_enter Try.func37, Try.ntmps37
  go_wp2_with fail
  go_loopw [9] (fun i wr => ∃ k : Nat, k ≤ l.length ∧ i = .int .i64 k ∧ Below w.heap.size w wr ∧ Hid (∀ (i : Nat) (h : i < l.length), i < k → S l[i] = true)) (fun i _ => l.length - (intOf i).toNat)
  case atStart => exact ⟨0, by omega, rfl, Below.refl _ _, fun i _ h => absurd h (Nat.not_lt_zero _)⟩
  case round =>
    obtain ⟨k, hk, rfl, HB_wr, HJ⟩ := hrel
    by_cases hlt : k < l.length
    · obtain ⟨b', off, rfl, hb, hrow⟩ := HS.out.get hlt
      have e_0 := ((hrow k hlt).below HB_wr hb).c1
      rw [Nat.mul_one] at e_0
      have HN := Lib.hid (show S l[k] = true → ∀ (i : Nat) (h : i < l.length), i < k + 1 → S l[i] = true from fun h0 i h hi => by
        rcases Nat.lt_succ_iff_lt_or_eq.1 hi with h1 | rfl
        · exact HJ.out i h h1
        · exact h0)
      have HFK := Lib.hid (HF.out k hlt)
      have hx := H64.out _ (List.getElem_mem hlt)
      clear hrow
      generalize l[k] = x at *
      cases hv : S x
      · have hlook := (HSET.out.below HB_wr).look hx hv
        have HP := Lib.hid (HFK.out hv)
        clear hv hx
        go_wp2_with fail
        go_ret
        exact ⟨ret_bool' HP.out.symm, HB_wr⟩
      · have hlook := (HSET.out.below HB_wr).look hx hv
        have HN2 := Lib.hid (HN.out hv)
        clear hv hx
        go_wp2_with fail
        go_roundw
        case rel => exact ⟨k + 1, by omega, by go_num, HB_wr, HN2⟩
        case measure => simp [intOf]; omega
    · have HP := Lib.hid (HT.out (fun i h => HJ.out i h (by omega)))
      go_wp2_with fail
      go_ret
      exact ⟨ret_bool' HP.out.symm, HB_wr⟩

/-- a set of the call's own -/
def NewSet (w : World) (m : Nat) (S : Int → Bool) (e : Ending) (w' : World) : Prop := ∃ b, e = .returned (.map (some b)) ∧ w.heap.size ≤ b ∧ SetOf w' b m S ∧ Below w.heap.size w w'
theorem contains_step {l : List Int} {k : Nat} (h : k < l.length) (x : Int) : (l.take (k + 1)).contains x = ((l.take k).contains x || x == l[k]) := by
  rw [List.take_add_one, List.getElem?_eq_getElem h, Option.toList_some, List.contains_append, Bool.eq_iff_iff]
  simp

set_option maxRecDepth 100000 in
set_option maxHeartbeats 1000000 in
theorem newSet_any (ao : Option Addr) (n cap : Nat) (l : List Int) (w : World) (hs : Sl w 1 cI ao n cap l) (h64 : ∀ a ∈ l, I64 a) : Calls Try.prog 43 #[.slice ao n cap] w (NewSet w l.length l.contains) := by
  obtain rfl := hs.len
  have hcap := hs.max
  have hle := hs.le
  unfold maxLen at hcap
  have HS := Lib.hid hs
  have H64 := Lib.hid h64
  have hmm := @run_makeMap Try.prog
  clear hs h64
  go_enter Try.func43, Try.ntmps43
  go_wp2_with fail
  clear hmm
  go_loopw [9] (fun i wr => ∃ k : Nat, k ≤ l.length ∧ i = .int .i64 k ∧ Below w.heap.size w wr ∧ Hid (SetOf wr w.heap.size k (l.take k).contains)) (fun i _ => l.length - (intOf i).toNat)
  case atStart => exact ⟨0, by omega, rfl, grew1 (Below.refl _ _), (SetOf.made w).congr (fun x _ => by simp)⟩
  case round =>
    obtain ⟨k, hk, rfl, HB_wr, HSET⟩ := hrel
    by_cases hlt : k < l.length
    · obtain ⟨b', off, rfl, hb, hrow⟩ := HS.out.get hlt
      have e_0 := ((hrow k hlt).below HB_wr hb).c1
      rw [Nat.mul_one] at e_0
      have HN := Lib.hid (fun x => contains_step hlt x)
      have hx := H64.out _ (List.getElem_mem hlt)
      clear hrow
      generalize l[k] = x at *
      go_wp2_with (at_mapUpdate; refine wpList_put_set rfl _ _ _ rfl w.heap.size k _ rfl HSET.out (by unfold maxLen; omega) x rfl rfl hx ?_; intro w1 hset1 hg1)
      have HS1 := Lib.hid (hset1.congr (S' := (l.take (k + 1)).contains) (fun y _ => by rw [HN.out]))
      have HB_w1 : Below w.heap.size w w1 := HB_wr.grown hg1 HB_wr.size (fun j hj => by cases hj; exact Nat.le_refl _)
      clear hset1 hg1 e_0
      go_wp2_with fail
      go_roundw
      case rel => exact ⟨k + 1, by omega, by go_num, HB_w1, HS1⟩
      case measure => simp [intOf]; omega
    · obtain rfl : k = l.length := by omega
      rw [List.take_length] at HSET
      go_wp2_with fail
      go_ret
      exact ⟨_, rfl, Nat.le_refl _, HSET.out, HB_wr⟩
end Go.Proofs.Ytofilkphaelceaa
