/-
  Walks of the layer 'schedule': late, Late.
-/
import Derived.Test.YtheioedggjbphaaScL
set_option linter.unusedVariables false
namespace Sc
def gotF (J : List Jb) (l : List Sn) (i p : Nat) : Bool := l.any (fun s => inT J s && decide (s.job = i ∧ s.piece = p))
def gl (J : List Jb) (l : List Sn) : List (Nat → Bool) := (List.range J.length).map (gotF J l)
def lateB (J : List Jb) (l : List Sn) (i : Nat) : Bool := (List.range (jat J i).pieces.toNat).any (fun p => !gotF J l i p)
def lateF (J : List Jb) (l : List Sn) : List Int := ((List.range J.length).filter (lateB J l)).map Int.ofNat
def lateR (J : List Jb) (l : List Sn) : List Int × Int := if validJ J && namesB J l then (lateF J l, 0) else ([], 1)
theorem gl_len (J : List Jb) (l : List Sn) : (gl J l).length = J.length := by unfold gl; simp
theorem gl_get {J : List Jb} {l : List Sn} {i : Nat} (h : i < J.length) : (gl J l)[i]'(by rw [gl_len]; exact h) = gotF J l i := by unfold gl; simp
theorem gl_nil (J : List Jb) : gl J [] = List.replicate J.length (fun _ => false) := by
  unfold gl
  apply List.ext_getElem
  · simp
  · intro i h1 h2
    simp
    rfl
theorem gl_no {J : List Jb} {l : List Sn} {k : Nat} (h : k < l.length) (e : inT J l[k] = false) : gl J (l.take (k + 1)) = gl J (l.take k) := by
  unfold gl
  congr 1
  funext i p
  unfold gotF
  rw [List.take_add_one, List.getElem?_eq_getElem h, Option.toList_some, List.any_append]
  simp [e]
theorem gl_yes {J : List Jb} {l : List Sn} {k i p : Nat} (h : k < l.length) (e : inT J l[k] = true) (hi : i < J.length) (h1 : l[k].job = i) (h2 : l[k].piece = p) : gl J (l.take (k + 1)) = (gl J (l.take k)).set i (fun q => if q = p then true else gotF J (l.take k) i q) := by
  apply List.ext_getElem
  · simp [gl_len]
  · intro x hx1 hx2
    have hx : x < J.length := by rw [gl_len] at hx1; exact hx1
    rw [gl_get hx, List.getElem_set]
    have hstep : ∀ q, gotF J (l.take (k + 1)) x q = (gotF J (l.take k) x q || decide (i = x ∧ p = q)) := fun q => by
      unfold gotF
      rw [List.take_add_one, List.getElem?_eq_getElem h, Option.toList_some, List.any_append]
      simp [e, h1, h2, Int.natCast_inj]
    split
    · rename_i hix
      subst hix
      funext q
      rw [hstep]
      by_cases hq : q = p
      · simp [hq]
      · rw [if_neg hq]
        simp [Ne.symm hq]
    · rename_i hix
      rw [gl_get hx]
      funext q
      rw [hstep]
      simp [hix]
theorem lateF_yes {J : List Jb} {l : List Sn} {k : Nat} (h : lateB J l k = true) : (((List.range (k + 1)).filter (lateB J l)).map Int.ofNat) = (((List.range k).filter (lateB J l)).map Int.ofNat) ++ [(k : Int)] := by
  rw [List.range_succ, List.filter_append, List.map_append]
  simp [h]
theorem lateF_no {J : List Jb} {l : List Sn} {k : Nat} (h : lateB J l k = false) : (((List.range (k + 1)).filter (lateB J l)).map Int.ofNat) = (((List.range k).filter (lateB J l)).map Int.ofNat) := by
  rw [List.range_succ, List.filter_append, List.map_append]
  simp [h]
theorem lateF_len (J : List Jb) (l : List Sn) (k : Nat) : (((List.range k).filter (lateB J l)).map Int.ofNat).length ≤ k := by
  rw [List.length_map]
  exact Nat.le_trans (List.length_filter_le _ _) (by simp)
end Sc
namespace Sk
open Go Go.RowKit
theorem OwnL.low {α : Type} {enc : α → List Value} {w w' : World} {B base e size : Nat} {v : Value} {ys : List α} (h : OwnL w base e size enc v ys) (hb : Below B w w') (hv : ∀ j, v.ownBlock = some j → j < B) : OwnL w' base e size enc v ys :=
  ⟨h.1, h.2.imp id (fun ⟨g, cap, cur, hv', hg, hgc, rest⟩ => ⟨g, cap, cur, hv', hg, (hb.block g (hv g (by rw [hv']; rfl))).trans hgc, rest⟩)⟩
theorem made_repl (u : Value) (m n : Nat) (hm : 0 < m) : (madeCells (Array.replicate m u) n).toList = List.replicate n u := by
  apply List.ext_getElem
  · simp [madeCells]
  · intro i h1 h2
    simp [madeCells, Nat.mod_lt _ hm]
end Sk
namespace Go.Proofs.Ytheioedggjbphaa
open Go Go.RowKit Sc Sk Go.Sort
def cG (f : Nat → Bool) : List Value := (List.range 32).map (fun p => .bool (f p))
theorem cG_len : ∀ x, (cG x).length = 32 := fun _ => by simp [cG]
theorem cG_get (f : Nat → Bool) {p : Nat} (h : p < 32) : (cG f)[p]? = some (.bool (f p)) := by unfold cG; rw [List.getElem?_map, List.getElem?_range h]; rfl
theorem cG_set (f : Nat → Bool) {p : Nat} : cG (fun q => if q = p then true else f q) = (cG f).set p (.bool true) := by
  apply List.ext_getElem?
  intro i
  by_cases hi : i < 32
  · rw [cG_get _ hi, List.getElem?_set, cG_get _ hi, cG_len]
    by_cases h : p = i
    · subst h; simp [hi]
    · rw [if_neg h, if_neg (fun e => h e.symm)]
  · rw [List.getElem?_eq_none (by rw [cG_len]; omega), List.getElem?_eq_none (by rw [List.length_set, cG_len]; omega)]
theorem flat_cG : ∀ n : Nat, (List.replicate n (fun _ => false)).flatMap cG = List.replicate (n * 32) (Value.bool false)
  | 0 => rfl
  | n + 1 => by
    rw [List.replicate_succ, List.flatMap_cons, flat_cG n, Nat.succ_mul, Nat.add_comm (n * 32), ← List.replicate_append_replicate]
    rfl
theorem info_got : (Try.prog.info? 66).map (fun i => (i.zero, i.size, i.bytes)) = some (some (.agg (Array.replicate 32 (.bool false))), 32, 32) := by kernel_rfl
theorem cells_got : (Value.agg (Array.replicate 32 (.bool false))).cells = Array.replicate 32 (Value.bool false) := by kernel_rfl
abbrev cBo (b : Bool) : List Value := [.bool b]
set_option maxRecDepth 100000 in
set_option maxHeartbeats 1000000 in
theorem bindex_any (ao : Option Addr) (n cap : Nat) (l : List Bool) (w : World) (hs : Sl w 1 cBo ao n cap l) : Calls Try.prog 68 #[.slice ao n cap, .bool false] w (Ret w (.int .i64 (fIdx (fun b => !b) l))) := by
  obtain rfl := hs.len
  have hcap := hs.max
  have hle := hs.le
  unfold maxLen at hcap
  have HS := Lib.hid hs
  have HB_w : Below w.heap.size w w := Below.refl _ _
  clear hs
  go_enter Try.func68, Try.ntmps68
  go_wp2_with fail
  go_loopw [8] (fun i wr => ∃ k : Nat, k ≤ l.length ∧ i = .int .i64 k ∧ wr = w ∧ Hid (∀ j (h : j < l.length), j < k → (!l[j]) = false)) (fun i _ => l.length - (intOf i).toNat)
  case atStart => exact ⟨0, Nat.zero_le _, rfl, rfl, fun j _ h => absurd h (Nat.not_lt_zero _)⟩
  case round =>
    obtain ⟨k, hk, rfl, rfl, HN⟩ := hrel
    by_cases hlt : k < l.length
    · obtain ⟨b, off, rfl, hb, hrow⟩ := HS.out.get hlt
      have e_0 := (hrow k hlt).c1
      simp only [Nat.mul_one] at e_0
      have HF := Lib.hid (fun h => fIdx_hit (p := fun b => !b) hlt h HN.out)
      have HNN := Lib.hid (show (!l[k]) = false → ∀ j (h : j < l.length), j < k + 1 → (!l[j]) = false from fun h0 j h hj => by
        by_cases hjk : j = k
        · subst hjk; exact h0
        · exact HN.out j h (by omega))
      clear hrow
      generalize l[k] = x at *
      cases x
      · have HP := Lib.hid (HF.out rfl)
        go_wp2_with fail
        all_goals try (exfalso; omega)
        go_ret
        exact ⟨ret_int HP.out.symm, HB_w⟩
      · have HNX := Lib.hid (HNN.out rfl)
        go_wp2_with fail
        all_goals try (exfalso; omega)
        go_roundw
        case rel => exact ⟨k + 1, hlt, by go_num, by first | rfl | trivial, HNX⟩
        case measure => simp [intOf] <;> omega
    · have HP := Lib.hid (fIdx_miss (p := fun b => !b) fun j hj => HN.out j hj (by omega))
      go_wp2_with fail
      all_goals try (exfalso; omega)
      go_ret
      exact ⟨ret_int HP.out.symm, HB_w⟩
theorem bcontains_any (ao : Option Addr) (n cap : Nat) (l : List Bool) (w : World) (hs : Sl w 1 cBo ao n cap l) : Calls Try.prog 58 #[.slice ao n cap, .bool false] w (Ret w (.bool (l.any (fun b => !b)))) := by
  have hc := bindex_any ao n cap l w hs
  have HA : Hid (l.any (fun b => !b) = true ↔ 0 ≤ fIdx (fun b => !b) l) := any_fIdx
  clear hs
  generalize l.any (fun b => !b) = q at *
  generalize fIdx (fun b => !b) l = r at *
  go_enter Try.func58, Try.ntmps58
  go_wp2_with fail
  refine hc.mono ?_
  rintro e w' ⟨rfl, hb2⟩
  go_wp2
  go_ret
  exact ⟨ret_bool (by rw [HA.out]; simp), hb2⟩
end Go.Proofs.Ytheioedggjbphaa
