/-
  The reference functions of the layer 'follow', walked: ready, Ready, copied, Order.
-/
import Derived.Test.YtofilkphaelceaaFoRb
import Derived.Test.YtofilkphaelceaaLie
set_option linter.unusedVariables false
namespace Fo
theorem readyF_zero (l : List St) (d : List Int) : readyF (l.take 0) d = [] := rfl
theorem readyF_succ {l : List St} {k : Nat} (h : k < l.length) (d : List Int) : readyF (l.take (k + 1)) d = if (!d.contains l[k].n && l[k].af.all d.contains) = true then readyF (l.take k) d ++ [l[k].n] else readyF (l.take k) d := by
  unfold readyF
  rw [List.take_add_one, List.getElem?_eq_getElem h, Option.toList_some, List.filter_append, List.map_append]
  cases hc : (!d.contains l[k].n && l[k].af.all d.contains) <;> simp only [List.filter_cons, hc] <;> simp
theorem readyF_len (l : List St) (d : List Int) (k : Nat) : (readyF (l.take k) d).length ≤ k := by
  unfold readyF
  rw [List.length_map]
  exact Nat.le_trans (List.length_filter_le _ _) (by rw [List.length_take]; omega)
theorem orderF_le (l : List St) (d : List Int) : (orderF l d).length ≤ l.length := by
  unfold orderF
  rw [List.length_map]
  exact List.length_filter_le _ _
/-- behind the whole order nothing is ready -/
theorem order_end {l : List St} {d D : List Int} (hD : ∀ x, x ∈ D ↔ (x ∈ d ∨ x ∈ orderF l d)) : readyF l D = [] := by
  unfold readyF
  rw [List.map_eq_nil_iff, List.filter_eq_nil_iff]
  intro s hs
  have : s.n ∈ D := by
    rw [hD, order_mem]
    by_cases hc : s.n ∈ d
    · exact .inl hc
    · exact .inr ⟨⟨s, hs, rfl⟩, hc⟩
  simp [this]
end Fo
namespace Go.Proofs.Ytofilkphaelceaa
open Go Go.RowKit Fo Sk Go.Sort
/-- no block of the one is a block of the other -/
def Apart (u v : Value) : Prop := ∀ g, u.ownBlock = some g → v.ownBlock ≠ some g
theorem Apart.symm {u v : Value} (h : Apart u v) : Apart v u := fun g h1 h2 => h g h2 h1
theorem OwnL.far {α : Type} {enc : α → List Value} {w w' : World} {base e size : Nat} {u v : Value} {ys : List α} (h : OwnL w base e size enc v ys) (hg : w.grownBy w' u.ownBlock) (ha : Apart v u) : OwnL w' base e size enc v ys :=
  World.ownsRow.kept h hg (by
    cases hv : v.ownBlock with
    | none => exact .inl rfl
    | some g => exact .inr fun e => ha g hv e.symm)
theorem Apart.lie {w : World} {g n cap : Nat} {u v : Value} (h : Apart u v) (hl : ∀ k, v.ownBlock = some k → k < w.heap.size) (hg : u.ownBlock = some g ∨ g = w.heap.size) : Apart (.slice (some ⟨g, 0, none⟩) n cap) v := fun k hk hv => by
  simp [Value.ownBlock] at hk
  subst hk
  rcases hg with hg | hg
  · exact h g hg hv
  · have := hl g hv; omega
theorem apart_nil (v : Value) : Apart (.slice none 0 0) v := fun g h => by simp [Value.ownBlock] at h

set_option maxRecDepth 100000 in
set_option maxHeartbeats 4000000 in
theorem rready_any (ao : Option Addr) (n cap : Nat) (l : List St) (bo : Option Addr) (m capb : Nat) (d : List Int) (w : World) (hs : SlS w ao n cap l) (hd : Sl w 1 cI bo m capb d) (h200 : l.length ≤ 200) :
    Calls Try.prog 44 #[.slice ao n cap, .slice bo m capb] w (fun e w' => ∃ v, e = .returned v ∧ OwnL w' w.heap.size 3 1 cI v (readyF l d) ∧ Below w.heap.size w w') := by
  obtain rfl := hs.1.len
  obtain rfl := hd.len
  have hcap := hs.1.max
  have hle := hs.1.le
  have hcapb := hd.max
  have hleb := hd.le
  unfold maxLen at hcap hcapb
  have HS0 := Lib.hid hs
  have HD0 := Lib.hid hd
  have HB_w : Below w.heap.size w w := Below.refl _ _
  obtain ⟨i0, hi, hz0, hz1, hz2⟩ := info_parts info_int
  have HI := Lib.hid hi
  have HZ0 := Lib.hid hz0
  have HZ1 := Lib.hid hz1
  have HZ2 := Lib.hid hz2
  clear hs hd hi hz0 hz1 hz2
  go_enter Try.func44, Try.ntmps44
  go_wp2_with fail
  go_loopw [5, 6] (fun o i wr => ∃ k : Nat, k ≤ l.length ∧ i = .int .i64 k ∧ Below w.heap.size w wr ∧ Hid (OwnL wr w.heap.size 3 1 cI o (readyF (l.take k) d))) (fun _ i _ => l.length - (intOf i).toNat)
  case atStart => exact ⟨0, Nat.zero_le _, rfl, HB_w, OwnL.nil⟩
  case round =>
    obtain ⟨k, hk, rfl, HB_wr, HO⟩ := hrel
    by_cases hlt : k < l.length
    · have HS1 := Lib.hid (HS0.out.below HB_wr)
      obtain ⟨b', off, rfl, hb, hrow⟩ := HS1.out.1.get hlt
      obtain ⟨e_0, e_1⟩ := (hrow k hlt).c2
      have HSO := Lib.hid (HS1.out.2 _ (List.getElem_mem hlt))
      have HST := Lib.hid (readyF_succ hlt d)
      have hyl := readyF_len l d k
      clear hrow
      generalize readyF (l.take k) d = ys at *
      generalize l[k] = x at *
      obtain ⟨s0, s1, s2, s3, s4⟩ := x
      obtain rfl : s4.length = s2 := HSO.out.1.len
      dsimp only at e_0 e_1 HST
      have HH := Lib.hid (show ∀ W, Below wr.heap.size wr W → Calls Try.prog 32 #[.slice bo d.length capb, .int .i64 s0] W (Ret W (.bool (d.contains s0))) from fun W hW => rhas_any _ _ _ d s0 W (HD0.out.below (after0 HB_wr hW)))
      have HW := Lib.hid (show ∀ W, Below wr.heap.size wr W → Calls Try.prog 47 #[.slice s1 s4.length s3, .slice bo d.length capb] W (Ret W (.bool (s4.all d.contains))) from fun W hW => rwithin_any _ _ _ _ _ _ s4 d W (HSO.out.1.below hW) (HD0.out.below (after0 HB_wr hW)))
      clear HS1 HSO
      have HE0 := Lib.hid e_0
      have HE1 := Lib.hid e_1
      cases hc : d.contains s0
      · rw [hc] at HST HH
        cases hc2 : s4.all d.contains
        · rw [hc2] at HST HW
          clear hc hc2
          go_wp2_with fail
          refine (HH.out _ (Below.refl _ _)).mono ?_
          rintro e wa ⟨rfl, hb_wa⟩
          have HB_wa : Below w.heap.size w wa := by first | exact after0 HB_wr hb_wa | exact after1 HB_wr hb_wa | exact after2 HB_wr hb_wa | exact after3 HB_wr hb_wa | exact after4 HB_wr hb_wa | exact after5 HB_wr hb_wa
          have HW_wa := hb_wa
          have e_0 := (HW_wa.cell (p := ⟨b', off + k * 2, none⟩) hb).trans HE0.out
          have e_1 := (HW_wa.cell (p := ⟨b', off + k * 2 + 1, none⟩) hb).trans HE1.out
          go_wp2_with fail
          refine (HW.out _ HW_wa).mono ?_
          rintro e wb ⟨rfl, hb_wb⟩
          have HB_wb : Below w.heap.size w wb := by first | exact after0 HB_wa hb_wb | exact after1 HB_wa hb_wb | exact after2 HB_wa hb_wb | exact after3 HB_wa hb_wb | exact after4 HB_wa hb_wb | exact after5 HB_wa hb_wb
          have HW_wb := after0 HW_wa hb_wb
          go_wp2_with fail
          have HB_wb := after0 HB_wr HW_wb
          have HO2 := Lib.hid (HO.out.below HW_wb)
          go_roundw
          case rel => exact ⟨k + 1, hlt, by go_num, HB_wb, by rw [HST.out]; exact HO2.out⟩
          case measure => simp [intOf] <;> omega
        · rw [hc2] at HST HW
          clear hc hc2
          go_wp2_with fail
          refine (HH.out _ (Below.refl _ _)).mono ?_
          rintro e wa ⟨rfl, hb_wa⟩
          have HB_wa : Below w.heap.size w wa := by first | exact after0 HB_wr hb_wa | exact after1 HB_wr hb_wa | exact after2 HB_wr hb_wa | exact after3 HB_wr hb_wa | exact after4 HB_wr hb_wa | exact after5 HB_wr hb_wa
          have HW_wa := hb_wa
          have e_0 := (HW_wa.cell (p := ⟨b', off + k * 2, none⟩) hb).trans HE0.out
          have e_1 := (HW_wa.cell (p := ⟨b', off + k * 2 + 1, none⟩) hb).trans HE1.out
          go_wp2_with fail
          refine (HW.out _ HW_wa).mono ?_
          rintro e wb ⟨rfl, hb_wb⟩
          have HB_wb : Below w.heap.size w wb := by first | exact after0 HB_wa hb_wb | exact after1 HB_wa hb_wb | exact after2 HB_wa hb_wb | exact after3 HB_wa hb_wb | exact after4 HB_wa hb_wb | exact after5 HB_wa hb_wb
          have HW_wb := after0 HW_wa hb_wb
          clear e_0 e_1
          have HB_wb := after0 HB_wr HW_wb
          have e_0 := (HW_wb.cell (p := ⟨b', off + k * 2, none⟩) hb).trans HE0.out
          have HOX := Lib.hid ((HO.out.below HW_wb).alloc (.cells #[.int .i64 s0] 3))
          have HSX : Hid (Sl (wb.alloc (.cells #[.int .i64 s0] 3)) 1 cI (some ⟨wb.heap.size, 0, none⟩) 1 1 [s0]) := Sl.one (x := s0) cI_len (Box.new wb (cI s0) 3)
          have hsz : w.heap.size ≤ (wb.alloc (.cells #[.int .i64 s0] 3)).heap.size := by have := HB_wb.size; simp; omega
          go_wp2_with (at_builtin; refine wpList_append_sl rfl _ _ 23 rfl w.heap.size 3 i0 _ 1 8 Try.underlying23 HI.out HZ0.out HZ1.out HZ2.out rfl (by decide) cI_len cI_one _ ys rfl HOX.out (some ⟨wb.heap.size, 0, none⟩) 1 1 [s0] rfl HSX.out (by unfold maxLen; omega) (by omega) hsz ?_)
          rintro v' w6 ho6 hg6 hgr6
          have HB_6 : Below w.heap.size w w6 := (grew1 HB_wb).trans (hg6 _ (Nat.le_refl _))
          have HO6 := Lib.hid ho6
          clear hg6 hgr6 ho6 HOX HSX hsz e_0 HO
          go_wp2_with fail
          go_roundw
          case rel => exact ⟨k + 1, hlt, by go_num, HB_6, by rw [HST.out]; exact HO6.out⟩
          case measure => simp [intOf] <;> omega
      · rw [hc] at HST HH
        clear hc
        go_wp2_with fail
        refine (HH.out _ (Below.refl _ _)).mono ?_
        rintro e wa ⟨rfl, hb_wa⟩
        have HB_wa : Below w.heap.size w wa := by first | exact after0 HB_wr hb_wa | exact after1 HB_wr hb_wa | exact after2 HB_wr hb_wa | exact after3 HB_wr hb_wa | exact after4 HB_wr hb_wa | exact after5 HB_wr hb_wa
        have HW_wa := hb_wa
        go_wp2_with fail
        have HB_wa := after0 HB_wr HW_wa
        have HO2 := Lib.hid (HO.out.below HW_wa)
        go_roundw
        case rel => exact ⟨k + 1, hlt, by go_num, HB_wa, by rw [HST.out]; exact HO2.out⟩
        case measure => simp [intOf] <;> omega
    · obtain rfl : k = l.length := by omega
      rw [List.take_length] at HO
      go_wp2_with fail
      go_ret
      exact ⟨_, rfl, HO.out, HB_wr⟩

set_option maxRecDepth 100000 in
set_option maxHeartbeats 4000000 in
theorem rcopied_any (bo : Option Addr) (m capb : Nat) (d : List Int) (w : World) (hd : Sl w 1 cI bo m capb d) (h200 : d.length ≤ 200) :
    Calls Try.prog 45 #[.slice bo m capb] w (fun e w' => ∃ v, e = .returned v ∧ OwnL w' w.heap.size 3 1 cI v d ∧ Below w.heap.size w w') := by
  obtain rfl := hd.len
  have hcapb := hd.max
  have hleb := hd.le
  unfold maxLen at hcapb
  have HD0 := Lib.hid hd
  have HB_w : Below w.heap.size w w := Below.refl _ _
  obtain ⟨i0, hi, hz0, hz1, hz2⟩ := info_parts info_int
  have HI := Lib.hid hi
  have HZ0 := Lib.hid hz0
  have HZ1 := Lib.hid hz1
  have HZ2 := Lib.hid hz2
  clear hd hi hz0 hz1 hz2
  go_enter Try.func45, Try.ntmps45
  go_wp2_with fail
  go_loopw [3, 4] (fun o i wr => ∃ k : Nat, k ≤ d.length ∧ i = .int .i64 k ∧ Below w.heap.size w wr ∧ Hid (OwnL wr w.heap.size 3 1 cI o (d.take k))) (fun _ i _ => d.length - (intOf i).toNat)
  case atStart => exact ⟨0, Nat.zero_le _, rfl, HB_w, OwnL.nil⟩
  case round =>
    obtain ⟨k, hk, rfl, HB_wr, HO⟩ := hrel
    by_cases hlt : k < d.length
    · obtain ⟨b', off, rfl, hb, hrow⟩ := (HD0.out.below HB_wr).get hlt
      have e_0 := (hrow k hlt).c1
      rw [Nat.mul_one] at e_0
      have HST := Lib.hid (show d.take (k + 1) = d.take k ++ [d[k]] by rw [List.take_add_one, List.getElem?_eq_getElem hlt, Option.toList_some])
      have hyl : (d.take k).length ≤ k := by rw [List.length_take]; omega
      clear hrow
      generalize d.take k = ys at *
      generalize d[k] = s0 at *
      have HOX := Lib.hid (HO.out.alloc (.cells #[.int .i64 s0] 3))
      have HSX : Hid (Sl (wr.alloc (.cells #[.int .i64 s0] 3)) 1 cI (some ⟨wr.heap.size, 0, none⟩) 1 1 [s0]) := Sl.one (x := s0) cI_len (Box.new wr (cI s0) 3)
      have hsz : w.heap.size ≤ (wr.alloc (.cells #[.int .i64 s0] 3)).heap.size := by have := HB_wr.size; simp; omega
      go_wp2_with (at_builtin; refine wpList_append_sl rfl _ _ 23 rfl w.heap.size 3 i0 _ 1 8 Try.underlying23 HI.out HZ0.out HZ1.out HZ2.out rfl (by decide) cI_len cI_one _ ys rfl HOX.out (some ⟨wr.heap.size, 0, none⟩) 1 1 [s0] rfl HSX.out (by unfold maxLen; omega) (by omega) hsz ?_)
      rintro v' w6 ho6 hg6 hgr6
      have HB_6 : Below w.heap.size w w6 := (grew1 HB_wr).trans (hg6 _ (Nat.le_refl _))
      have HO6 := Lib.hid ho6
      clear hg6 hgr6 ho6 HOX HSX hsz e_0 HO
      go_wp2_with fail
      go_roundw
      case rel => exact ⟨k + 1, hlt, by go_num, HB_6, by rw [HST.out]; exact HO6.out⟩
      case measure => simp [intOf] <;> omega
    · obtain rfl : k = d.length := by omega
      rw [List.take_length] at HO
      go_wp2_with fail
      go_ret
      exact ⟨_, rfl, HO.out, HB_wr⟩
end Go.Proofs.Ytofilkphaelceaa
