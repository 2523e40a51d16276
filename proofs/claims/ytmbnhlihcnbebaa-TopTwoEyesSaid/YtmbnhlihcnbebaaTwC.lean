/-
  Walks of the journal: the rows in reverse.
-/
import Derived.Shelf.Abstract
import Derived.Deep.LoopGhost
import Derived.Deep.Cut
import Derived.Test.YtmbnhlihcnbebaaTwA
import Derived.Test.YtmbnhlihcnbebaaRange
set_option linter.unusedVariables false
namespace Ey
/-- what is met behind k steps from the end -/
def bk (l : List Rw) : Nat → List (Int × Rw)
  | 0 => []
  | k + 1 => bk l k ++ [(((l.length - 1 - k : Nat) : Int), (l[l.length - 1 - k]?).getD default)]
theorem bk_len (l : List Rw) (k : Nat) : (bk l k).length = k := by
  induction k with
  | zero => rfl
  | succ k ih => rw [bk, List.length_append, ih]; rfl
theorem bk_prefix (l : List Rw) (j k : Nat) : bk l j <+: bk l (j + k) := by
  induction k with
  | zero => exact List.prefix_refl _
  | succ k ih => exact ih.trans (by rw [← Nat.add_assoc]; exact List.prefix_append _ _)
theorem bk_succ {l : List Rw} {j k : Nat} (h : j + k + 1 = l.length) : bk l (k + 1) = bk l k ++ [((j : Int), l[j]'(by omega))] := by
  rw [bk, show l.length - 1 - k = j by omega, List.getElem?_eq_getElem (by omega)]
  rfl
theorem bk_map {l : List Rw} : ∀ {k : Nat}, k ≤ l.length → (bk l k).map Prod.snd = (l.drop (l.length - k)).reverse
  | 0, _ => by simp [bk]
  | k + 1, h => by
    obtain ⟨j, hj⟩ : ∃ j, j + k + 1 = l.length := ⟨l.length - 1 - k, by omega⟩
    rw [bk_succ hj, List.map_append, bk_map (by omega), show l.length - (k + 1) = j by omega, show l.length - k = j + 1 by omega, List.drop_eq_getElem_cons (show j < l.length by omega), List.reverse_cons]
    rfl
theorem bk_rev (l : List Rw) : (bk l l.length).map Prod.snd = l.reverse := by rw [bk_map (Nat.le_refl _)]; simp
def rw0 : Rw := ⟨0, 0, 0, 0, 0⟩
def lastR (l : List Rw) (p : Rw → Bool) : Rw × Bool := match l.reverse.find? p with | some x => (x, true) | none => (rw0, false)
theorem lastR_none {l : List Rw} {p : Rw → Bool} {xs : List (Int × Rw)} (hx : xs = bk l l.length) (h : ∀ q ∈ xs, p q.2 = false) : lastR l p = (rw0, false) := by
  unfold lastR
  rw [← bk_rev, ← hx, List.find?_eq_none.2 (fun y hy => by
    obtain ⟨q, hq, rfl⟩ := List.mem_map.1 hy
    simp [h q hq])]
theorem lastR_some {l : List Rw} {p : Rw → Bool} {m : List (Int × Rw)} {x : Int × Rw} (hx : m ++ [x] <+: bk l l.length) (h : ∀ q ∈ m, p q.2 = false) (hp : p x.2 = true) : lastR l p = (x.2, true) := by
  unfold lastR
  obtain ⟨r, hr⟩ := hx
  rw [← bk_rev, ← hr, List.map_append, List.map_append, List.append_assoc, List.find?_append, List.find?_eq_none.2 (fun y hy => by
    obtain ⟨q, hq, rfl⟩ := List.mem_map.1 hy
    simp [h q hq])]
  simp [hp]
end Ey
namespace Go.Proofs.Ytmbnhlihcnbebaa
open Go Go.RowKit Ey Sk Go.Sort Go.Shelf
attribute [local go_sem] Oper.semAt_some
abbrev eIR (p : Int × Rw) : Array Value := #[.int .i64 p.1, eRw p.2]

theorem back_any (ao : Option Addr) (n cap : Nat) (w : World) : Calls Try.prog 93 #[.slice ao n cap] w fun e w' => e = .returned (.func (.func 100) #[] #[.pointer (some ⟨w.heap.size, 0, none⟩)]) ∧ w' = w.alloc (.cells #[.slice ao n cap] 61) := by
  go_enter Try.func93, Try.ntmps93
  go_wp2
  go_ret
  exact ⟨rfl, rfl⟩

set_option maxRecDepth 100000 in
set_option maxHeartbeats 4000000 in
theorem back1_wide (lid BL TL n0 : Nat) (ao : Option Addr) (n cap : Nat) (l : List Rw) (J Jx : List (Int × Rw) → World → Prop) (W : World) (hJ : AbidesFrom W.heap.size J)
    (hY : ∀ pre x W1, J pre W1 → pre.length < 200 → YieldAt Fence.wide (9 - 1) Try.prog lid (eIR x) W1 fun e W' =>
      (e = .returned (.bool true) ∧ J (pre ++ [x]) W' ∧ Below n0 W1 W') ∨ (e = .returned (.bool false) ∧ Jx (pre ++ [x]) W'))
    (hB : ∀ W', Below n0 W W' → Box W' BL TL [.slice ao n cap]) (hs : ∀ W', Below n0 W W' → Sl W' 5 cRw ao n cap l) (hl : l.length ≤ 200) (h0 : J [] W) :
    CallsIn Fence.wide 9 Try.prog 100 #[.func (.yield lid) #[] #[], .pointer (some ⟨BL, 0, none⟩)] W fun e W' => (∃ v, e = .returned v) ∧
      ((∃ ys, ys = bk l l.length ∧ J ys W') ∨ (∃ pre, pre <+: bk l l.length ∧ Jx pre W')) := by
  have hs0 := hs W (Below.refl _ _)
  obtain rfl := hs0.len
  have hcap := hs0.max
  have hle := hs0.le
  unfold maxLen at hcap
  have HJ := Lib.hid hJ
  have HY := Lib.hid hY
  have HB := Lib.hid hB
  have HS := Lib.hid hs
  have x1 := (hB W (Below.refl _ _)).c1
  clear hJ hY hB hs hs0
  refine callsIn_of_wp Try.func100 rfl trivial (wpIn_wide.2 ?_) rfl
  simp only [Try.ntmps100, List.size_toArray, List.length_cons, List.length_nil, Nat.reduceAdd, Nat.reduceSub, Array.replicate_succ, Array.replicate_zero, List.push_toArray, List.append_toArray, List.nil_append, List.cons_append]
  go_wp2_with fail
  clear x1
  go_loopw [3] (fun i wr => ∃ (k : Nat) (z : Int), k ≤ l.length ∧ i = .int .i64 z ∧ z + k + 1 = l.length ∧ Hid (J (bk l k) wr) ∧ Hid (Below n0 W wr)) (fun i _ => (intOf i + 1).toNat)
  case atStart => exact ⟨0, (l.length : Int) - 1, by omega, by go_num, by omega, h0, Below.refl _ _⟩
  case round =>
    clear h0
    obtain ⟨k, z, hk, rfl, hz, HJ0, HB_wr⟩ := hrel
    by_cases hkl : k < l.length
    · obtain ⟨j, hj⟩ : ∃ j, j + k + 1 = l.length := ⟨l.length - 1 - k, by omega⟩
      obtain rfl : z = (j : Int) := by omega
      clear hz
      have HF := Lib.hid (bk_succ hj)
      have HPR := Lib.hid (show bk l (k + 1) <+: bk l l.length by have := bk_prefix l (k + 1) (l.length - (k + 1)); rwa [show k + 1 + (l.length - (k + 1)) = l.length by omega] at this)
      have hjl : j < l.length := by omega
      obtain ⟨b', off, rfl, hb, hrow⟩ := (HS.out wr HB_wr.out).get hjl
      obtain ⟨e_0, e_1, e_2, e_3, e_4⟩ := (hrow j hjl).c5
      have x1 := (HB.out wr HB_wr.out).c1
      have HYK := Lib.hid (fun x => HY.out (bk l k) x wr HJ0.out (by rw [bk_len]; omega))
      clear hrow
      generalize l[j] = a at *
      obtain ⟨a0, a1, a2, a3, a4⟩ := a
      dsimp only at e_0 e_1 e_2 e_3 e_4
      obtain ⟨fn, tmps, assign, body, hy, hR⟩ := HYK.out ((j : Int), ⟨a0, a1, a2, a3, a4⟩)
      dsimp only [eIR, eRw] at hy
      have HRB := Lib.hid hR
      clear hR HYK
      go_upto_region 3 with (fail)
      refine (wpIn_wide (n := 9)).1 ?_
      gi_wp2_with fail
      refine HRB.out.mono ?_
      rintro e W3 (⟨rfl, hJ3, hb3⟩ | ⟨rfl, hJx3⟩)
      · have HJ3 := Lib.hid hJ3
        have HB3 := Lib.hid (HB_wr.out.trans hb3)
        clear hy hJ3 hb3 HRB x1 e_0 e_1 e_2 e_3 e_4
        gi_wp2
        try refine NoPanic.normal ?_
        go_wp2
        go_roundw
        case rel => exact ⟨k + 1, (j : Int) - 1, by omega, by go_num, by omega, (by show J _ _; rw [HF.out]; exact HJ3.out), HB3⟩
        case measure => simp [intOf] <;> omega
      · have HJ3 := Lib.hid hJx3
        clear hy hJx3 HRB x1 e_0 e_1 e_2 e_3 e_4
        gi_wp2
        try refine NoPanic.normal ?_
        go_wp2
        refine bodyPost_ret (results_none rfl _ _ _) rfl ?_
        refine ⟨⟨_, rfl⟩, .inr ⟨_, ?_, HJ3.out⟩⟩
        rw [← HF.out]
        exact HPR.out
    · obtain rfl : k = l.length := by omega
      have hz2 : z = -1 := by omega
      subst hz2
      clear hz
      go_wp2_with fail
      go_end0
      exact ⟨⟨_, rfl⟩, .inl ⟨_, rfl, HJ0.out⟩⟩
end Go.Proofs.Ytmbnhlihcnbebaa

set_option linter.unusedVariables false
namespace Go.Proofs.Ytmbnhlihcnbebaa
open Go Go.RowKit Ey Sk Go.Sort Go.Shelf
attribute [local go_sem] Oper.semAt_some
theorem below_b {n0 : Nat} (W : World) (l : Nat) (o o' : Obj) (hl : n0 ≤ l) (h : W.heap[l]? = some o) (hc : o.isCells = false) (hw : o.isWalk = false) : Below n0 W (W.putObj l o') :=
  (Below.refl n0 W).grown (grownBy_putObj' W l o') (by have := (Array.getElem?_eq_some_iff.1 h).1; omega) (fun k e => by cases e; omega)
theorem back_stops (BL TL n0 : Nat) (ao : Option Addr) (n cap : Nat) (l : List Rw) (w : World) (hB : ∀ W', Below n0 w W' → Box W' BL TL [.slice ao n cap]) (hs : ∀ W', Below n0 w W' → Sl W' 5 cRw ao n cap l) (hl : l.length ≤ 200) (hn : n0 ≤ w.heap.size) :
    SeqStopsK Fence.wide 9 Try.prog 100 #[.pointer (some ⟨BL, 0, none⟩)] eIR (Below n0) (fun ys => ys = bk l l.length) (fun pre => pre <+: bk l l.length) 200 w := fun lid J Jx W hW hJ _ hY h0 =>
  back1_wide lid BL TL n0 ao n cap l J Jx W hJ hY (fun W' h => hB W' ((hW.mono hn).trans h)) (fun W' h => hs W' ((hW.mono hn).trans h)) hl h0

set_option maxRecDepth 100000 in
set_option maxHeartbeats 4000000 in
theorem last_any (ao : Option Addr) (n cap : Nat) (l : List Rw) (g : Nat) (lb : Array Value) (p : Rw → Bool) (w : World) (hs : Sl w 5 cRw ao n cap l) (hl : l.length ≤ 200)
    (hp : ∀ W x, Below w.heap.size w W → Calls Try.prog g (#[eRw x] ++ lb) W (Ret W (.bool (p x)))) (eg : ∀ args w, (callFunc g args).run Try.prog w = .ok (.enter g args) w) :
    Calls Try.prog 80 #[.slice ao n cap, .func (.func g) #[] lb] w (Ret w (.tuple #[eRw (lastR l p).1, .bool (lastR l p).2])) := by
  obtain rfl := hs.len
  have HS := Lib.hid hs
  have HPC := Lib.hid hp
  clear hs hp
  obtain ⟨W0, hW0, HB_W0, hZ0, hf, hr, he⟩ := boxes3 w [.func (.func g) #[] lb] [.int .i64 0, .int .i64 0, .int .i64 0, .int .i64 0, .int .i64 0] [.bool false] 115 94 4
  obtain ⟨R, hR⟩ : ∃ R, w.heap.size = R := ⟨_, rfl⟩
  rw [hR] at hZ0 hf hr he
  have H_f := Lib.hid hf
  have H_r := Lib.hid hr
  have H_e := Lib.hid he
  have HZ := Lib.hid hZ0
  clear hf hr he hZ0
  refine (callsIn_wide (n := 10)).1 (callsIn_of_wp_marks Try.func80 rfl trivial (wpIn_wide.2 ?_) rfl)
  simp only [Try.ntmps80, List.size_toArray, List.length_cons, List.length_nil, Nat.reduceAdd, Nat.reduceSub, Array.replicate_succ, Array.replicate_zero, List.push_toArray, List.append_toArray, List.nil_append, List.cons_append]
  go_wp2_with fail
  refine (back_any ao l.length cap W0).mono ?_
  rintro e wb ⟨rfl, hwb⟩
  rw [HZ.out]
  have hbb : Below W0.heap.size W0 wb := hwb ▸ grew1 (Below.refl _ _)
  have H_p : Hid (Box wb (R + 3) 61 [.slice ao l.length cap]) := by have := Box.new W0 [.slice ao l.length cap] 61; rw [HZ.out] at this; rw [hwb]; exact this
  have HB_b : Below w.heap.size w wb := after0 HB_W0 hbb
  have H_f3 := Lib.hid (H_f.out.below hbb)
  have H_r3 := Lib.hid (H_r.out.below hbb)
  have H_e3 := Lib.hid (H_e.out.below hbb)
  have hsz : wb.heap.size = R + 4 := by rw [hwb]; simp [HZ.out]
  have HSB := Lib.hid (HS.out.below HB_b)
  clear hwb hW0 HB_W0 hbb H_f H_r H_e HZ HS
  have HRN := Lib.hid hsz
  have HRR := Lib.hid hR
  go_wp2_with fail
  clear hsz
  refine (wpIn_wide (n := 10)).1 ?_
  refine wpIn_rangeFunc_ownH rfl (by omega) (gf := 100) (lb := #[.pointer (some ⟨R + 3, 0, none⟩)]) rfl trivial (enters_of Try.func100 (by kernel_rfl) rfl)
    (back_stops (R + 3) 61 wb.heap.size ao l.length cap l wb (fun W' h => H_p.out.below h) (fun W' h => HSB.out.below h) hl (Nat.le_refl _)) (fun h k => h.trans k)
    (fun W l o o' => below_b W l o o') (Below.refl _ _) (fun _ => rfl)
    (fun pre W => (∀ q ∈ pre, p q.2 = false) ∧ (Box W R 115 [.func (.func g) #[] lb] ∧ Box W (R + 1) 94 [.int .i64 0, .int .i64 0, .int .i64 0, .int .i64 0, .int .i64 0] ∧ Box W (R + 1 + 1) 4 [.bool false]) ∧ Below w.heap.size w W ∧ wb.heap.size ≤ W.heap.size)
    (fun c pre W => c = .ret ∧ ∃ m x, pre = m ++ [x] ∧ (∀ q ∈ m, p q.2 = false) ∧ p x.2 = true ∧ (Box W (R + 1) 94 (cRw x.2) ∧ Box W (R + 1 + 1) 4 [.bool true]) ∧ Below w.heap.size w W)
    (OwnFrom.and (ownFrom_pure _ _) (OwnFrom.and (OwnFrom.and (box_own _ _ _ (fun _ => _)) (OwnFrom.and (box_own _ _ _ (fun _ => _)) (box_own _ _ _ (fun _ => _)))) (OwnFrom.and (ownFrom_below (Nat.le_refl _) HB_b.size) (ownFrom_size _ _))))
    (fun c s X Y row hs hg hr => by
      obtain ⟨rfl, m, x, e, hm, hpx, ⟨b1, b2⟩, hb⟩ := hs
      exact ⟨rfl, m, x, e, hm, hpx, ⟨box_own _ (R + 1) _ (fun (_ : Unit) => _) () X Y row b1 hg hr, box_own _ (R + 1 + 1) _ (fun (_ : Unit) => _) () X Y row b2 hg hr⟩, ownFrom_below (β := Unit) (Nat.le_refl _) HB_b.size () X Y row hb hg hr⟩)
    ⟨(fun q hq => by cases hq), ⟨H_f3.out, H_r3.out, H_e3.out⟩, HB_b, Nat.le_refl _⟩
    (fun x a' W => ∃ Bx, Box W Bx 94 (cRw x.2) ∧ a' = {
      tmps := #[.slice ao l.length cap, .func (.func g) #[] lb, undef, .pointer (some ⟨R, 0, none⟩), .pointer (some ⟨R + 1, 0, none⟩), .pointer (some ⟨R + 1 + 1, 0, none⟩), undef, .pointer (some ⟨Bx, 0, none⟩), undef, .slice ao l.length cap,
        .func (.func 100) #[] #[.pointer (some ⟨R + 3, 0, none⟩)], .int .i64 x.1, eRw x.2, undef, undef, undef, undef, undef], defers := [] })
    (fun x a' _ X Y row hs hg hr => by
      obtain ⟨Bx, b1, e⟩ := hs
      exact ⟨Bx, box_own _ Bx _ (fun (_ : Unit) => _) () X Y row b1 hg hr, e⟩)
    ?assign ?body ?done ?stop
  case assign =>
    rintro l' pre x W K ⟨hpre, ⟨b0, b1, b2⟩, hb, hz⟩ hK
    dsimp only [eIR]
    gi_wp2
    refine hK _ _ ((KeepsOthers.alloc _ _).from _) ?_ ⟨hpre, ⟨b0.alloc _, b1.alloc _, b2.alloc _⟩, grew1 hb, by simp; omega⟩ ⟨W.heap.size, Box.new W (cRw x.2) _, rfl⟩
    exact (grew1 (Below.refl _ W)).mono hz
  case body =>
    rintro l' pre x a' W hl' _ ⟨hpre, ⟨b0, b1, b2⟩, hb, hz⟩ ⟨Bx, bX, rfl⟩ hlt
    have HCALL := Lib.hid (HPC.out W x.2 hb)
    have HB0 := Lib.hid b0
    have HB1 := Lib.hid b1
    have HB2 := Lib.hid b2
    have HBX := Lib.hid bX
    have HHB := Lib.hid hb
    have HPRE := Lib.hid hpre
    obtain ⟨i, ⟨x0, x1, x2, x3, x4⟩⟩ := x
    obtain ⟨q0, q1, q2, q3, q4⟩ := bX.c5
    have f0 := b0.c1
    dsimp only [eRw] at HCALL ⊢
    clear b0 b1 b2 bX hb hpre
    have HPX := Lib.hid (fun b => @Eq.trans _ (p ⟨x0, x1, x2, x3, x4⟩) _ b rfl)
    obtain ⟨b, hpb⟩ : ∃ b, p ⟨x0, x1, x2, x3, x4⟩ = b := ⟨_, rfl⟩
    rw [hpb] at HCALL
    have HPB := Lib.hid hpb
    clear hpb HPX
    dsimp only at q0 q1 q2 q3 q4
    cases b
    · gi_wp2_with fail
      refine ⟨trivial, (((callsIn_wide (n := 7)).2 HCALL.out).inRound l').mono ?_⟩
      rintro e w3 ⟨rfl, hb3⟩
      have HB3 := Lib.hid hb3
      clear q0 q1 q2 q3 q4 f0 hb3
      gi_wp2
      refine ⟨KeepsFrom.of_grownBy (grown_below (row := none) HB3.out) (fun j e => by cases e), HB3.out.mono hz, fun q hq => ?_, ⟨HB0.out.below HB3.out, HB1.out.below HB3.out, HB2.out.below HB3.out⟩, after0 HHB.out HB3.out, Nat.le_trans hz HB3.out.size⟩
      rcases List.mem_append.1 hq with hq | hq
      · exact HPRE.out q hq
      · obtain rfl : q = (i, ⟨x0, x1, x2, x3, x4⟩) := by simpa using hq
        exact HPB.out
    · gi_wp2_with fail
      refine ⟨trivial, (((callsIn_wide (n := 7)).2 HCALL.out).inRound l').mono ?_⟩
      rintro e w3 ⟨rfl, hb3⟩
      have HB3 := Lib.hid hb3
      have HX3 := Lib.hid (HBX.out.below hb3)
      have HR3 := Lib.hid (HB1.out.below hb3)
      have HE3 := Lib.hid (HB2.out.below hb3)
      have HH3 := Lib.hid (after0 HHB.out hb3)
      clear q0 q1 q2 q3 q4 f0 hb3 HB0 HB1 HB2 HBX HHB HCALL
      obtain ⟨q0, q1, q2, q3, q4⟩ := HX3.out.c5
      obtain ⟨r0, r1, r2, r3, r4⟩ := HR3.out.c5
      have e0 := HE3.out.c1
      have fr := HR3.out.frozen
      have fe := HE3.out.frozen
      dsimp only at q0 q1 q2 q3 q4
      gi_wp2_with fail
      refine ⟨?_, by trivial, pre, (i, ⟨x0, x1, x2, x3, x4⟩), rfl, HPRE.out, HPB.out, ⟨?_, ?_⟩, ?_⟩
      · exact (KeepsFrom.of_grownBy (grown_below (row := none) HB3.out) (fun j e => by cases e)).trans (((((((KeepsOthers.setCell _ _ _).trans (KeepsOthers.setCell _ _ _)).trans (KeepsOthers.setCell _ _ _)).trans (KeepsOthers.setCell _ _ _)).trans (KeepsOthers.setCell _ _ _)).trans (KeepsOthers.setCell _ _ _)).from _)
      · exact (((((HR3.out.set 0 _).set 1 _).set 2 _).set 3 _).set 4 _).other (by omega)
      · exact (((((HE3.out.other (by omega)).other (by omega)).other (by omega)).other (by omega)).other (by omega)).set 0 _
      · have hle : w.heap.size ≤ R + 1 := by omega
        have hle2 : w.heap.size ≤ R + 1 + 1 := by omega
        exact (((((HH3.out.setCell (p := ⟨R + 1, 0, none⟩) hle _).setCell (p := ⟨R + 1, 1, none⟩) hle _).setCell (p := ⟨R + 1, 2, none⟩) hle _).setCell (p := ⟨R + 1, 3, none⟩) hle _).setCell (p := ⟨R + 1, 4, none⟩) hle _).setCell (p := ⟨R + 1 + 1, 0, none⟩) hle2 _
  case done =>
    rintro D xs W hD hS ⟨hpre, ⟨b0, b1, b2⟩, hb, hz⟩ hK
    have HLR := Lib.hid (lastR_none hS hpre)
    have HB1 := Lib.hid b1
    have HB2 := Lib.hid b2
    have HHB := Lib.hid hb
    have HD : Hid (W.heap[D]? = some (.deferred (some []))) := hK
    have HDR : Hid (wb.heap.size ≤ D) := hD
    have hDlt : D < W.heap.size := (Array.getElem?_eq_some_iff.1 hK).1
    clear hS hpre hK hD b0 b1 b2 hb
    obtain ⟨V, hV⟩ : ∃ V, W.heap.size = V := ⟨_, rfl⟩
    obtain ⟨W1, hW1, hBl1, hZ1, hb1⟩ := boxes1 W [.int .i64 0, .int .i64 0, .int .i64 0, .int .i64 0, .int .i64 0] 94
    rw [hV] at hb1 hDlt
    have HV := Lib.hid hb1
    have HR3 := Lib.hid (HB1.out.below hBl1)
    have HE3 := Lib.hid (HB2.out.below hBl1)
    have HH3 := Lib.hid (after0 HHB.out hBl1)
    have HD3 : Hid (W1.heap[D]? = some (.deferred (some []))) := (hBl1.block D (by omega)).trans HD.out
    clear hb1 hBl1 hZ1 HB1 HB2 HHB HD
    obtain ⟨q0, q1, q2, q3, q4⟩ := HV.out.c5
    obtain ⟨r0, r1, r2, r3, r4⟩ := HR3.out.c5
    have e0 := HE3.out.c1
    have fr := HR3.out.frozen
    have fe := HE3.out.frozen
    dsimp only [Exit.inBlock, Exit.then]
    go_wp2_with fail
    have hle : w.heap.size ≤ R + 1 := by omega
    have hle2 : w.heap.size ≤ R + 1 + 1 := by omega
    obtain ⟨W2, hW2⟩ : ∃ W2, (((((W1.setCell ⟨R + 1, 0, none⟩ (.int .i64 0)).setCell ⟨R + 1, 1, none⟩ (.int .i64 0)).setCell ⟨R + 1, 2, none⟩ (.int .i64 0)).setCell ⟨R + 1, 3, none⟩ (.int .i64 0)).setCell ⟨R + 1, 4, none⟩ (.int .i64 0)).setCell ⟨R + 1 + 1, 0, none⟩ (.bool false) = W2 := ⟨_, rfl⟩
    have c1 : Box W2 (R + 1) 94 [.int .i64 0, .int .i64 0, .int .i64 0, .int .i64 0, .int .i64 0] := hW2 ▸ (((((HR3.out.set 0 (.int .i64 0)).set 1 (.int .i64 0)).set 2 (.int .i64 0)).set 3 (.int .i64 0)).set 4 (.int .i64 0)).other (by omega)
    have c2 : Box W2 (R + 1 + 1) 4 [.bool false] := hW2 ▸ (((((HE3.out.other (by omega)).other (by omega)).other (by omega)).other (by omega)).other (by omega)).set 0 (.bool false)
    have c3 : W2.heap[D]? = some (.deferred (some [])) := hW2 ▸ ((((((KeepsOthers.setCell _ _ _).trans (KeepsOthers.setCell _ _ _)).trans (KeepsOthers.setCell _ _ _)).trans (KeepsOthers.setCell _ _ _)).trans (KeepsOthers.setCell _ _ _)).trans (KeepsOthers.setCell _ _ _)).same D _ HD3.out rfl
    have c4 : Below w.heap.size w W2 := hW2 ▸ (((((HH3.out.setCell (p := ⟨R + 1, 0, none⟩) hle _).setCell (p := ⟨R + 1, 1, none⟩) hle _).setCell (p := ⟨R + 1, 2, none⟩) hle _).setCell (p := ⟨R + 1, 3, none⟩) hle _).setCell (p := ⟨R + 1, 4, none⟩) hle _).setCell (p := ⟨R + 1 + 1, 0, none⟩) hle2 _
    rw [hW2]
    clear hW2 r0 r1 r2 r3 r4 e0 fr fe q0 q1 q2 q3 q4
    have q1 := c1.putObj (o' := .deferred none) c3 rfl
    have q2 := c2.putObj (o' := .deferred none) c3 rfl
    obtain ⟨r0, r1, r2, r3, r4⟩ := q1.c5
    have r5 := q2.c1
    refine marks_ret1 (v := .tuple #[eRw rw0, .bool false]) c3 rfl (by simp [results, Try.results80, go_sem, r0, r1, r2, r3, r4, r5, rw0]) ⟨by rw [HLR.out], ?_⟩
    exact c4.trans (belowK_b (w := w) (Nat.le_refl _) W2 D _ _ (by have := HB_b.size; have := HDR.out; omega) c3 rfl rfl)
  case stop =>
    rintro D c pre W hD hSp ⟨rfl, m, x, rfl, hm, hpx, ⟨b1, b2⟩, hb⟩ hK
    refine wpIn_wide.2 ?_
    rw [lastR_some hSp hm hpx]
    clear hSp hm hpx
    obtain ⟨i, ⟨x0, x1, x2, x3, x4⟩⟩ := x
    go_wp2
    have q1 := b1.putObj (o' := .deferred none) hK rfl
    have q2 := b2.putObj (o' := .deferred none) hK rfl
    obtain ⟨r0, r1, r2, r3, r4⟩ := q1.c5
    have r5 := q2.c1
    refine marks_ret1 (v := .tuple #[eRw ⟨x0, x1, x2, x3, x4⟩, .bool true]) hK rfl (by simp [results, Try.results80, go_sem, r0, r1, r2, r3, r4, r5]) ⟨rfl, ?_⟩
    exact hb.trans (belowK_b (w := w) (Nat.le_refl _) W D _ _ (by have := HB_b.size; omega) hK rfl rfl)
end Go.Proofs.Ytmbnhlihcnbebaa

set_option linter.unusedVariables false
namespace Ey
theorem holdB_no {x t kn : Int} {r : Rw} (h : ¬ (r.item = x ∧ r.known ≤ kn ∧ r.fr ≤ t ∧ t < r.un)) : holdB x t kn r = false := decide_eq_false h
theorem holdB_yes {x t kn : Int} {r : Rw} (h : r.item = x ∧ r.known ≤ kn ∧ r.fr ≤ t ∧ t < r.un) : holdB x t kn r = true := decide_eq_true h
theorem valR_pick (l : List Rw) (x t kn : Int) : valR (pickR l x t kn) = if (lastR l (holdB x t kn)).2 = true then ((lastR l (holdB x t kn)).1.value, 0) else (0, 4) := by
  unfold pickR lastR
  cases l.reverse.find? (holdB x t kn) <;> rfl
end Ey
namespace Go.Proofs.Ytmbnhlihcnbebaa
open Go Go.RowKit Ey Sk Go.Sort Go.Shelf
set_option maxRecDepth 100000 in
set_option maxHeartbeats 4000000 in
theorem holds1_any (r : Rw) (x t kn : Int) (b1 b2 b3 : Nat) (w : World) (h1 : Box w b1 3 [.int .i64 x]) (h2 : Box w b2 3 [.int .i64 kn]) (h3 : Box w b3 3 [.int .i64 t]) :
    Calls Try.prog 81 (#[eRw r] ++ #[.pointer (some ⟨b1, 0, none⟩), .pointer (some ⟨b2, 0, none⟩), .pointer (some ⟨b3, 0, none⟩)]) w (Ret w (.bool (holdB x t kn r))) := by
  have HN := Lib.hid (@holdB_no x t kn r)
  have HYS := Lib.hid (@holdB_yes x t kn r)
  generalize holdB x t kn r = p at *
  obtain ⟨r0, r1, r2, r3, r4⟩ := r
  dsimp only [eRw] at *
  obtain ⟨W0, hW0, HB_W0, hZ, hn⟩ := boxes1 w [.int .i64 r0, .int .i64 r1, .int .i64 r2, .int .i64 r3, .int .i64 r4] 94
  have H_n := Lib.hid hn
  have e1 := (h1.below HB_W0).c1
  have e2 := (h2.below HB_W0).c1
  have e3 := (h3.below HB_W0).c1
  clear hn hZ h1 h2 h3
  obtain ⟨q_n_0, q_n_1, q_n_2, q_n_3, q_n_4⟩ := H_n.out.c5
  show Calls Try.prog 81 #[.agg #[.int .i64 r0, .int .i64 r1, .int .i64 r2, .int .i64 r3, .int .i64 r4], .pointer (some ⟨b1, 0, none⟩), .pointer (some ⟨b2, 0, none⟩), .pointer (some ⟨b3, 0, none⟩)] w (Ret w (.bool p))
  by_cases c1 : r0 = x
  case neg =>
    have HP := Lib.hid (HN.out (fun h => c1 h.1))
    have c1 : (r0 == x) = false := beq_eq_false_iff_ne.2 c1
    go_enter Try.func81, Try.ntmps81
    go_wp2_with fail
    all_goals try (exfalso; omega)
    all_goals
      go_ret
      exact ⟨ret_bool' (by first | exact HP.out.symm | (rw [HP.out]; exact decide_eq_false (by omega)) | (rw [HP.out]; exact decide_eq_true (by omega))), HB_W0⟩
  subst c1
  by_cases c2 : r4 ≤ kn
  case neg =>
    have HP := Lib.hid (HN.out (fun h => c2 h.2.1))
    replace c2 := Int.not_le.1 c2
    go_enter Try.func81, Try.ntmps81
    go_wp2_with fail
    all_goals try (exfalso; omega)
    all_goals
      go_ret
      exact ⟨ret_bool' (by first | exact HP.out.symm | (rw [HP.out]; exact decide_eq_false (by omega)) | (rw [HP.out]; exact decide_eq_true (by omega))), HB_W0⟩
  by_cases c3 : r2 ≤ t
  case neg =>
    have HP := Lib.hid (HN.out (fun h => c3 h.2.2.1))
    replace c3 := Int.not_le.1 c3
    go_enter Try.func81, Try.ntmps81
    go_wp2_with fail
    all_goals try (exfalso; omega)
    all_goals
      go_ret
      exact ⟨ret_bool' (by first | exact HP.out.symm | (rw [HP.out]; exact decide_eq_false (by omega)) | (rw [HP.out]; exact decide_eq_true (by omega))), HB_W0⟩
  by_cases c4 : t < r3
  case neg =>
    have HP := Lib.hid (HN.out (fun h => c4 h.2.2.2))
    replace c4 := Int.not_lt.1 c4
    go_enter Try.func81, Try.ntmps81
    go_wp2_with fail
    all_goals try (exfalso; omega)
    all_goals
      go_ret
      exact ⟨ret_bool' (by first | exact HP.out.symm | (rw [HP.out]; exact decide_eq_false (by omega)) | (rw [HP.out]; exact decide_eq_true (by omega))), HB_W0⟩
  have HP := Lib.hid (HYS.out ⟨rfl, c2, c3, c4⟩)
  go_enter Try.func81, Try.ntmps81
  go_wp2_with fail
  all_goals try (exfalso; omega)
  all_goals
    go_ret
    exact ⟨ret_bool' (by first | exact HP.out.symm | (rw [HP.out]; exact decide_eq_false (by omega)) | (rw [HP.out]; exact decide_eq_true (by omega))), HB_W0⟩

set_option maxRecDepth 100000 in
set_option maxHeartbeats 4000000 in
theorem holds_any (ao : Option Addr) (n cap : Nat) (l : List Rw) (x t kn : Int) (w : World) (hs : Sl w 5 cRw ao n cap l) (hl : l.length ≤ 200) :
    Calls Try.prog 62 #[.slice ao n cap, .int .i64 x, .int .i64 t, .int .i64 kn] w (Ret w (.tuple #[eRw (lastR l (holdB x t kn)).1, .bool (lastR l (holdB x t kn)).2])) := by
  obtain ⟨W0, hW0, HB_W0, hZ0, h1, h2, h3⟩ := boxes3 w [.int .i64 x] [.int .i64 t] [.int .i64 kn] 3 3 3
  obtain ⟨R, hR⟩ : ∃ R, w.heap.size = R := ⟨_, rfl⟩
  rw [hR] at h1 h2 h3 hZ0
  obtain ⟨W1, hW1, hB1, hZ1, h4⟩ := boxes1 W0 [.int .i64 0, .int .i64 0, .int .i64 0, .int .i64 0, .int .i64 0] 94
  rw [hZ0] at h4
  have HB_W1 : Below w.heap.size w W1 := after0 HB_W0 hB1
  have HL := Lib.hid (last_any ao n cap l 81 #[.pointer (some ⟨R, 0, none⟩), .pointer (some ⟨R + 1 + 1, 0, none⟩), .pointer (some ⟨R + 1, 0, none⟩)] (holdB x t kn) W1 (hs.below HB_W1) hl
    (fun W r hW => holds1_any r x t kn R (R + 1 + 1) (R + 1) W ((h1.below hB1).below hW) ((h3.below hB1).below hW) ((h2.below hB1).below hW)) (fun args w => by kernel_rfl))
  have H_r := Lib.hid h4
  clear h1 h2 h3 h4 hB1 hZ1 HB_W0
  generalize lastR l (holdB x t kn) = pq at *
  obtain ⟨⟨p0, p1, p2, p3, p4⟩, q⟩ := pq
  dsimp only [eRw] at HL ⊢
  obtain ⟨r0, r1, r2, r3, r4⟩ := H_r.out.c5
  have fr := H_r.out.frozen
  go_enter Try.func62, Try.ntmps62
  go_wp2_with fail
  refine (HL.out).mono ?_
  rintro e wa ⟨rfl, hb_wa⟩
  have HB_wa : Below w.heap.size w wa := by first | exact after0 HB_W1 hb_wa | exact after1 HB_W1 hb_wa | exact after2 HB_W1 hb_wa | exact after3 HB_W1 hb_wa | exact after4 HB_W1 hb_wa | exact after5 HB_W1 hb_wa
  have H_r2 := Lib.hid (H_r.out.below hb_wa)
  clear hW0 hW1 r0 r1 r2 r3 r4 fr H_r hZ0 HB_W1 hs
  obtain ⟨r0, r1, r2, r3, r4⟩ := H_r2.out.c5
  have fr := H_r2.out.frozen
  go_wp2_with fail
  obtain ⟨s0, s1, s2, s3, s4⟩ := (((((H_r2.out.set 0 (.int .i64 p0)).set 1 (.int .i64 p1)).set 2 (.int .i64 p2)).set 3 (.int .i64 p3)).set 4 (.int .i64 p4)).c5
  refine bodyPost_ret (v := .tuple #[.agg #[.int .i64 p0, .int .i64 p1, .int .i64 p2, .int .i64 p3, .int .i64 p4], .bool q]) (by simp [results, Try.results62, go_sem, s0, s1, s2, s3, s4]) rfl ?_
  have hle : w.heap.size ≤ R + 3 := by omega
  exact ⟨rfl, ((((HB_wa.setCell (p := ⟨R + 3, 0, none⟩) hle _).setCell (p := ⟨R + 3, 1, none⟩) hle _).setCell (p := ⟨R + 3, 2, none⟩) hle _).setCell (p := ⟨R + 3, 3, none⟩) hle _).setCell (p := ⟨R + 3, 4, none⟩) hle _⟩

set_option maxRecDepth 100000 in
set_option maxHeartbeats 4000000 in
theorem bat_any (ao : Option Addr) (n cap : Nat) (l : List Rw) (x t kn : Int) (w : World) (hs : Sl w 5 cRw ao n cap l) (hv : validRw l = true) (hx : 1 ≤ x ∧ x ≤ 100000) (ht : timeB t = true) (hk : timeB kn = true) :
    Calls Try.prog 33 #[.slice ao n cap, .int .i64 x, .int .i64 t, .int .i64 kn] w (Ret w (.tuple #[.int .i64 (valR (pickR l x t kn)).1, .int .i64 (valR (pickR l x t kn)).2])) := by
  have HB_w : Below w.heap.size w w := Below.refl _ _
  have HV := Lib.hid (bValid_any ao n cap l w hs)
  rw [hv] at HV
  have HI := Lib.hid (fun W => bitem_any x W)
  rw [decide_eq_true hx] at HI
  have HT := Lib.hid (fun W => btime_any t W)
  rw [ht] at HT
  have HK := Lib.hid (fun W => btime_any kn W)
  rw [hk] at HK
  have HH := Lib.hid (fun W hW => holds_any ao n cap l x t kn W (hs.below hW) (validRw_iff.1 hv).1)
  rw [valR_pick]
  generalize lastR l (holdB x t kn) = pq at *
  obtain ⟨⟨p0, p1, p2, p3, p4⟩, q⟩ := pq
  dsimp only [eRw] at HH ⊢
  clear hs hv hx ht hk
  obtain ⟨v, hvv⟩ : ∃ v : Int × Int, (if q = true then (p1, 0) else (0, 4)) = v := ⟨_, rfl⟩
  rw [hvv]
  have HVV := Lib.hid hvv
  clear hvv
  go_enter Try.func33, Try.ntmps33
  go_wp2_with fail
  refine (HV.out).mono ?_
  rintro e wa ⟨rfl, hb_wa⟩
  have HB_wa : Below w.heap.size w wa := by first | exact after0 HB_w hb_wa | exact after1 HB_w hb_wa | exact after2 HB_w hb_wa | exact after3 HB_w hb_wa | exact after4 HB_w hb_wa | exact after5 HB_w hb_wa
  go_wp2_with fail
  refine (HI.out _).mono ?_
  rintro e wb ⟨rfl, hb_wb⟩
  have HB_wb : Below w.heap.size w wb := by first | exact after0 HB_wa hb_wb | exact after1 HB_wa hb_wb | exact after2 HB_wa hb_wb | exact after3 HB_wa hb_wb | exact after4 HB_wa hb_wb | exact after5 HB_wa hb_wb
  go_wp2_with fail
  refine (HT.out _).mono ?_
  rintro e wc ⟨rfl, hb_wc⟩
  have HB_wc : Below w.heap.size w wc := by first | exact after0 HB_wb hb_wc | exact after1 HB_wb hb_wc | exact after2 HB_wb hb_wc | exact after3 HB_wb hb_wc | exact after4 HB_wb hb_wc | exact after5 HB_wb hb_wc
  go_wp2_with fail
  refine (HK.out _).mono ?_
  rintro e wd ⟨rfl, hb_wd⟩
  have HB_wd : Below w.heap.size w wd := by first | exact after0 HB_wc hb_wd | exact after1 HB_wc hb_wd | exact after2 HB_wc hb_wd | exact after3 HB_wc hb_wd | exact after4 HB_wc hb_wd | exact after5 HB_wc hb_wd
  go_wp2_with fail
  refine (HH.out wd HB_wd).mono ?_
  rintro e we ⟨rfl, hb_we⟩
  have HB_we : Below w.heap.size w we := by first | exact after0 HB_wd hb_we | exact after1 HB_wd hb_we | exact after2 HB_wd hb_we | exact after3 HB_wd hb_we | exact after4 HB_wd hb_we | exact after5 HB_wd hb_we
  obtain ⟨W0, hW0, hB0, hZ0, hr⟩ := boxes1 we [.int .i64 p0, .int .i64 p1, .int .i64 p2, .int .i64 p3, .int .i64 p4] 94
  have HB_W0 : Below w.heap.size w W0 := after0 HB_we hB0
  obtain ⟨r0, r1, r2, r3, r4⟩ := hr.c5
  clear hB0 hZ0 hr HV HI HT HK HH
  cases q
  · have HP := Lib.hid (show v = (0, 4) from HVV.out.symm)
    clear HVV
    go_wp2_with fail
    go_ret2
    exact ⟨by rw [HP.out]; rfl, HB_W0⟩
  · have HP := Lib.hid (show v = (p1, 0) from HVV.out.symm)
    clear HVV
    go_wp2_with fail
    go_ret2
    exact ⟨by rw [HP.out]; rfl, HB_W0⟩
end Go.Proofs.Ytmbnhlihcnbebaa
