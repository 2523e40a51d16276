/-
  Walks of the layer 'number': Valid, moment, covers, the closure in Rows, IndexFunc, ContainsFunc, Rows: what each returns, for every input; nothing that was there turns.
-/
import Derived.Test.YtpdecgbfnhaojaaGreatProg
import Derived.WalkKit
import Derived.WalkLawsBesides
import Derived.WalkSpells
import Derived.BigGuardPart
import Derived.Test.YtpdecgbfnhaojaaGreatKit
import Derived.Test.YtpdecgbfnhaojaaGreatNb
namespace Go.Proofs.YtpdecgbfnhaojaaGreat
open Go.RowKit Nb Sk

abbrev eN (n : Nm) : Value := .agg #[.int .i64 n.st, .int .i64 n.kd, .int .i64 n.nu]
abbrev cU (u : Us) : List Value := [.int .i64 u.nm.st, .int .i64 u.nm.kd, .int .i64 u.nm.nu, .int .i64 u.fr, .int .i64 u.fe]
abbrev eU (u : Us) : Value := .agg #[.int .i64 u.nm.st, .int .i64 u.nm.kd, .int .i64 u.nm.nu, .int .i64 u.fr, .int .i64 u.fe]
def covI (a b t : Int) : Bool := decide (a ≤ t ∧ t < b)

theorem valid_any (s k m : Int) (w : World) : Calls Tryz.prog 39 #[.agg #[.int .i64 s, .int .i64 k, .int .i64 m]] w (Ret w (.bool (okN ⟨s, k, m⟩))) := by
  go_enter Tryz.func39, Tryz.ntmps39
  go_wp2
  all_goals
    go_ret
    refine ⟨ret_bool ?_, (Below.refl _ _).alloc (Nat.le_refl _) _⟩
    simp [okN]; omega

theorem moment_any (t : Int) (w : World) : Calls Tryz.prog 64 #[.int .i64 t] w (Ret w (.bool (tm t))) := by
  go_enter Tryz.func64, Tryz.ntmps64
  go_wp2
  all_goals
    go_ret
    refine ⟨ret_bool ?_, (Below.refl _ _)⟩
    simp [tm]; omega

theorem covers_any (a b c d f t : Int) (w : World) : Calls Tryz.prog 76 #[.agg #[.int .i64 a, .int .i64 b, .int .i64 c, .int .i64 d, .int .i64 f], .int .i64 t] w (Ret w (.bool (covI d f t))) := by
  go_enter Tryz.func76, Tryz.ntmps76
  go_wp2
  all_goals
    go_ret
    refine ⟨ret_bool ?_, ((Below.refl _ _).alloc (Nat.le_refl _) _)⟩
    simp [covI]; omega

theorem rows1_any (us uk un uf ue vs vk vn vf ve : Int) (B : Nat) (w : World) (hB : B < w.heap.size) (hc : Cells w B 0 [.int .i64 us, .int .i64 uk, .int .i64 un, .int .i64 uf, .int .i64 ue]) :
    Calls Tryz.prog 75 #[.agg #[.int .i64 vs, .int .i64 vk, .int .i64 vn, .int .i64 vf, .int .i64 ve], .pointer (some ⟨B, 0, none⟩)] w (Ret w (.bool (decide (vs = us ∧ vk = uk ∧ vn = un) && covI vf ve uf))) := by
  obtain ⟨h0, h1, h2, h3, h4⟩ := hc.c5
  clear hc
  go_enter Tryz.func75, Tryz.ntmps75
  go_wp2_with (go_at_call 76; refine (covers_any _ _ _ _ _ _ _).mono ?_; rintro e w' ⟨rfl, hb⟩)
  · go_ret
    exact ⟨ret_bool (by simp [*]), ((Below.refl _ w).alloc (Nat.le_refl _) _).trans (hb.mono (by simp))⟩
  all_goals
    go_ret
    exact ⟨ret_bool (by simp [*]), ((Below.refl _ w).alloc (Nat.le_refl _) _)⟩

theorem indexFunc_any (ao : Option Addr) (n cap : Nat) (l : List Us) (g : Nat) (lb : Array Value) (p : Us → Bool) (w : World) (hs : Sl w 5 cU ao n cap l) (hp : Asks Tryz.prog g lb eU p l w)
    (eg : ∀ args w, (callFunc g args).run Tryz.prog w = .ok (.enter g args) w) :
    Calls Tryz.prog 80 #[.slice ao n cap, .func (.func g) #[] lb] w (Ret w (.int .i64 (fIdx p l))) := by
  obtain rfl := hs.len
  have hcap := hs.max
  have hle := hs.le
  unfold maxLen at hcap
  have HS : Hid (Sl w 5 cU ao l.length cap l) := hs
  have HP : Hid (Asks Tryz.prog g lb eU p l w) := hp
  clear hs hp
  go_enter Tryz.func80, Tryz.ntmps80
  go_wp2
  go_loopw [5, 8] (fun _ i wr => ∃ k : Nat, k ≤ l.length ∧ i = .int .i64 k ∧ Below w.heap.size w wr ∧ Hid (∀ j (h : j < l.length), j < k → p l[j] = false)) (fun _ i _ => l.length - (intOf i).toNat)
  case atStart => exact ⟨0, Nat.zero_le _, rfl, Below.refl _ _, fun j _ h => absurd h (Nat.not_lt_zero _)⟩
  case round =>
    obtain ⟨k, hk, rfl, hbel, HN⟩ := hrel
    by_cases hlt : k < l.length
    · obtain ⟨b, off, rfl, hb, hrow⟩ := HS.out.get hlt
      obtain ⟨h0, h1, h2, h3, h4⟩ := ((hrow k hlt).below hbel hb).c5
      have hcall := HP.out wr l[k] hbel (List.getElem_mem hlt)
      clear hrow
      by_cases hpk : p l[k] = true
      · have HR : Hid (fIdx p l = k) := fIdx_hit hlt hpk HN.out
        go_wp2_with fail
        refine hcall.mono ?_
        rintro e w' ⟨rfl, hb2⟩
        clear hcall h0 h1 h2 h3 h4
        go_wp2
        go_ret
        exact ⟨ret_int HR.out.symm, hbel.trans (hb2.mono hbel.size)⟩
      · have HR : Hid (∀ j (h : j < l.length), j < k + 1 → p l[j] = false) := fun j h hj => by
          by_cases hjk : j = k
          · subst hjk; simpa using hpk
          · exact HN.out j h (by omega)
        go_wp2_with fail
        refine hcall.mono ?_
        rintro e w' ⟨rfl, hb2⟩
        clear hcall h0 h1 h2 h3 h4
        go_wp2
        go_roundw
        case rel => exact ⟨k + 1, by omega, by go_num, hbel.trans (hb2.mono hbel.size), HR⟩
        case measure => simp [intOf]; omega
    · have HR : Hid (fIdx p l = -1) := fIdx_miss fun j hj => HN.out j hj (by omega)
      go_wp2
      go_ret
      exact ⟨ret_int HR.out.symm, hbel⟩

theorem containsFunc_any (ao : Option Addr) (n cap : Nat) (l : List Us) (g : Nat) (lb : Array Value) (p : Us → Bool) (w : World) (hs : Sl w 5 cU ao n cap l) (hp : Asks Tryz.prog g lb eU p l w)
    (eg : ∀ args w, (callFunc g args).run Tryz.prog w = .ok (.enter g args) w) :
    Calls Tryz.prog 74 #[.slice ao n cap, .func (.func g) #[] lb] w (Ret w (.bool (l.any p))) := by
  have hc := indexFunc_any ao n cap l g lb p w hs hp eg
  have HA : Hid (l.any p = true ↔ 0 ≤ fIdx p l) := any_fIdx
  clear hs hp
  generalize l.any p = q at *
  generalize fIdx p l = r at *
  go_enter Tryz.func74, Tryz.ntmps74
  go_wp2_with fail
  refine hc.mono ?_
  rintro e w' ⟨rfl, hb2⟩
  go_wp2
  go_ret
  exact ⟨ret_bool (by rw [HA.out]; simp), hb2⟩
end Go.Proofs.YtpdecgbfnhaojaaGreat
