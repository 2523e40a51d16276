/-
  The frame of a statement 'for every input the law returns true, and each argument reads behind the call as it did': the arguments opened, whatever their plain types. No program in sight.
-/
import Derived.WalkKit
import Derived.ProofKit
import Derived.OpenShut
import Derived.Carry
import Derived.ChangeMaps5
import Derived.Test.YtheioedggjbphaaKit
namespace Sk
open Go Go.RowKit Go.ChangeShapes Go.WideShapes Go.ChangeAt

/-- the kinds of cells that are opened: a number, a bool, a string; or a slice, which is opened later -/
inductive Kd where
  | int (k : IntKind)
  | bool
  | str
  | sl (t : TypeId)

section
variable {H : Type} {enc : TypeId × Value → H} {P : Program} {w : World} {base : Nat} {spare : Nat → Bool} {held : Bool}

def Kd.ok (enc : TypeId × Value → H) (P : Program) (w : World) (base : Nat) (spare : Nat → Bool) (held : Bool) : Kd → Value → Prop
  | .int k, v => ∃ n, v = .int k n ∧ (Lit.int k n).wf = true
  | .bool, v => ∃ b, v = .bool b
  | .str, v => ∃ s, v = .string s ∧ s.size ≤ maxLen
  | .sl t, v => ∃ n x, DataW.trod enc P w base spare held n t [v] = some x

/-- the cells of a plain type, in turn -/
def flat (P : Program) : Nat → TypeId → Option (List Kd)
  | 0, _ => none
  | d + 1, t => match P.underlying t with
    | some (.int k) => if P.cellsOf t = 1 then some [.int k] else none
    | some .bool => if P.cellsOf t = 1 then some [.bool] else none
    | some .string => if P.cellsOf t = 1 then some [.str] else none
    | some (.slice _) => if P.cellsOf t = 1 then some [.sl t] else none
    | some (.struct fs) => fs.toList.foldl (fun acc f => acc.bind fun l => if f.offset = l.length then (flat P d f.type).bind fun q => if q.length = P.cellsOf f.type then some (l ++ q) else none else none) (some [])
    | _ => none

inductive Typed (enc : TypeId × Value → H) (P : Program) (w : World) (base : Nat) (spare : Nat → Bool) (held : Bool) : List Kd → List Value → Prop
  | nil : Typed enc P w base spare held [] []
  | cons {k : Kd} {ks : List Kd} {v : Value} {vs : List Value} : k.ok enc P w base spare held v → Typed enc P w base spare held ks vs → Typed enc P w base spare held (k :: ks) (v :: vs)

theorem Typed.length {ks : List Kd} {vs : List Value} (h : Typed enc P w base spare held ks vs) : vs.length = ks.length := by
  induction h with
  | nil => rfl
  | cons _ _ ih => simp [ih]
theorem Typed.append {ks ls : List Kd} {vs us : List Value} (h : Typed enc P w base spare held ks vs) (h' : Typed enc P w base spare held ls us) : Typed enc P w base spare held (ks ++ ls) (vs ++ us) := by
  induction h with
  | nil => exact h'
  | cons h1 _ ih => exact .cons h1 ih

theorem foldl_none {α β : Type} (g : Option β → α → Option β) (hg : ∀ a, g none a = none) : ∀ l : List α, l.foldl g none = none
  | [] => rfl
  | a :: l => by rw [List.foldl_cons, hg, foldl_none g hg l]

theorem flat_open : ∀ (d : Nat) (t : TypeId) (ks : List Kd), flat P d t = some ks → ∀ (n : Nat) (cs : List Value) (x : DataW H × List MemPlace), DataW.trod enc P w base spare held n t cs = some x → cs.length = ks.length → Typed enc P w base spare held ks cs
  | 0, _, _, h, _, _, _, _, _ => by simp [flat] at h
  | d + 1, t, ks, h, n, cs, x, hx, hl => by
    unfold flat at h
    split at h
    · rename_i k ht
      split at h
      · obtain rfl := Option.some.inj h
        obtain ⟨m, rfl, _, hw⟩ := DataW.trod_int ht hx
        exact .cons ⟨m, rfl, hw⟩ .nil
      · cases h
    · rename_i ht
      split at h
      · obtain rfl := Option.some.inj h
        obtain ⟨b, rfl, _⟩ := DataW.trod_bool ht hx
        exact .cons ⟨b, rfl⟩ .nil
      · cases h
    · rename_i ht
      split at h
      · obtain rfl := Option.some.inj h
        obtain ⟨s, rfl, _, hs⟩ := DataW.trod_string ht hx
        exact .cons ⟨s, rfl, hs⟩ .nil
      · cases h
    · rename_i e ht
      split at h
      · obtain rfl := Option.some.inj h
        match cs, hl with
        | [v], _ => exact .cons ⟨n, x, hx⟩ .nil
      · cases h
    · rename_i fs ht
      obtain ⟨xs, m, rfl, _, hcl, hxl, hf⟩ := DataW.trod_struct ht hx
      have key : ∀ (fl : List Field) (off : Nat) (l0 : List Kd), fs.toList.drop off = fl → off ≤ fs.size → Typed enc P w base spare held l0 (cs.take l0.length) →
          fl.foldl (fun acc f => acc.bind fun l => if f.offset = l.length then (flat P d f.type).bind fun q => if q.length = P.cellsOf f.type then some (l ++ q) else none else none) (some l0) = some ks → Typed enc P w base spare held ks (cs.take ks.length) := by
        intro fl
        induction fl with
        | nil =>
          intro off l0 _ _ h0 he
          obtain rfl := Option.some.inj he
          exact h0
        | cons f fl ih =>
          intro off l0 hd hoff h0 he
          have hlt : off < fs.size := by
            rcases Nat.lt_or_ge off fs.size with h | h
            · exact h
            · rw [List.drop_eq_nil_of_le (by simpa using h)] at hd; cases hd
          rw [List.drop_eq_getElem_cons (by simpa using hlt)] at hd
          simp only [List.cons.injEq] at hd
          obtain ⟨hd1, hd2⟩ := hd
          have hfo := hf off f (by rw [← hd1]; simp)
          rw [List.foldl_cons] at he
          simp only [Option.bind_some] at he
          split at he
          · rename_i ho
            cases hq : flat P d f.type with
            | none => rw [hq] at he; simp only [Option.bind_none] at he; rw [foldl_none _ (fun _ => rfl)] at he; cases he
            | some q =>
              rw [hq] at he
              simp only [Option.bind_some] at he
              split at he
              · rename_i hqc
                obtain ⟨y, hy⟩ : ∃ y, xs[off]? = some y := ⟨_, List.getElem?_eq_getElem (by omega)⟩
                rw [hy] at hfo
                have hlen : ((cs.drop f.offset).take (P.cellsOf f.type)).length = q.length := by
                  have hk : (l0 ++ q).length ≤ ks.length := by
                    clear ih
                    revert he
                    generalize l0 ++ q = l1
                    clear hd1 hd2
                    intro he
                    have mono : ∀ (fl : List Field) (l1 ks : List Kd), fl.foldl (fun acc f => acc.bind fun l => if f.offset = l.length then (flat P d f.type).bind fun q => if q.length = P.cellsOf f.type then some (l ++ q) else none else none) (some l1) = some ks → l1.length ≤ ks.length := by
                      intro fl
                      induction fl with
                      | nil => intro l1 ks h; obtain rfl := Option.some.inj h; exact Nat.le_refl _
                      | cons f fl ih =>
                        intro l1 ks h
                        rw [List.foldl_cons] at h
                        simp only [Option.bind_some] at h
                        split at h
                        · cases hq : flat P d f.type with
                          | none => rw [hq] at h; simp only [Option.bind_none] at h; rw [foldl_none _ (fun _ => rfl)] at h; cases h
                          | some q =>
                            rw [hq] at h
                            simp only [Option.bind_some] at h
                            split at h
                            · have := ih _ _ h; simp at this; omega
                            · rw [foldl_none _ (fun _ => rfl)] at h; cases h
                        · rw [foldl_none _ (fun _ => rfl)] at h; cases h
                    exact mono _ _ _ he
                  simp only [List.length_append] at hk
                  rw [List.length_take, List.length_drop, hqc, ho, hl]
                  omega
                have hT := flat_open d f.type q hq m _ y hfo hlen
                refine ih (off + 1) (l0 ++ q) hd2 hlt ?_ he
                have := h0.append hT
                rw [← hqc, ho] at this
                rw [List.length_append, List.take_add]
                exact this
              · rw [foldl_none _ (fun _ => rfl)] at he; cases he
          · rw [foldl_none _ (fun _ => rfl)] at he; cases he
      have := key fs.toList 0 [] rfl (Nat.zero_le _) (by simpa using Typed.nil) h
      rwa [← hl, List.take_length] at this
    · cases h

/-- a slice of plain elements reads as a list -/
theorem sl_open {α : Type} [Inhabited α] {Q : α → Prop} {encL : α → List Value} {t e : TypeId} {k dd : Nat} {ks : List Kd} (ht : P.underlying t = some (.slice e)) (hc : P.cellsOf e = k) (hk : 0 < k) (hf : flat P dd e = some ks) (hks : ks.length = k)
    (hel : ∀ cs, Typed enc P w base spare held ks cs → ∃ u : α, cs = encL u ∧ Q u) {n : Nat} {v : Value} {x : DataW H × List MemPlace} (h : DataW.trod enc P w base spare held n t [v] = some x) :
    ∃ ao len cap, ∃ l : List α, v = .slice ao len cap ∧ Sl w k encL ao len cap l ∧ ∀ u ∈ l, Q u := by
  rcases DataW.trod_slice ht h with ⟨h0, _⟩ | ⟨a, len, cap, elems, rest, m, _, h1, _, hb, hl, hm, hlen, hel2, _, _⟩
  · obtain rfl : v = .slice none 0 0 := by simpa using h0
    exact ⟨none, 0, 0, [], rfl, Sl.nil, by simp⟩
  · obtain rfl : v = .slice (some a) len cap := by simpa using h1
    have each : ∀ i, i < len → ∃ u : α, Q u ∧ ∀ j c, (encL u)[j]? = some c → w.cell? ((a.add (i * k)).add j) = some c := by
      intro i hi
      have := hel2 i hi
      rw [List.getElem?_eq_getElem (by omega), Option.bind_eq_some_iff] at this
      obtain ⟨cs, hcs, hy⟩ := this
      obtain ⟨_, hcl, hcc⟩ := World.cells?_some hcs
      rw [hc] at hcl hcs hcc
      obtain ⟨u, rfl, hu⟩ := hel cs (flat_open dd e ks hf _ _ _ hy (by rw [hcl, hks]))
      refine ⟨u, hu, fun j c hj => ?_⟩
      have hj' : j < k := by rw [← hcl]; exact (List.getElem?_eq_some_iff.1 hj).1
      rw [hcc j hj', hj]
    classical
    have hex : ∃ f : Nat → α, ∀ i, i < len → Q (f i) ∧ ∀ j c, (encL (f i))[j]? = some c → w.cell? ((a.add (i * k)).add j) = some c :=
      ⟨fun i => if hi : i < len then Classical.choose (each i hi) else default, fun i hi => by simp only [dif_pos hi]; exact Classical.choose_spec (each i hi)⟩
    obtain ⟨f, hff⟩ := hex
    have hsp : 0 < len → a.spot = none ∧ a.block < w.heap.size := by
      intro h0
      have := hel2 0 h0
      rw [List.getElem?_eq_getElem (by omega), Option.bind_eq_some_iff] at this
      obtain ⟨cs, hcs, _⟩ := this
      obtain ⟨_, hcl, hcc⟩ := World.cells?_some hcs
      have h2 := hcc 0 (by omega)
      rw [List.getElem?_eq_getElem (by omega)] at h2
      have h3 : w.cell? a = some cs[0] := by simpa [Addr.add] using h2
      refine ⟨?_, World.block_lt_of_cell? w a h3⟩
      unfold World.cell? at h3
      cases hs : a.spot with
      | none => rfl
      | some q => rw [hs] at h3; split at h3 <;> simp at h3
    refine ⟨some a, len, cap, (List.range len).map f, rfl, ⟨by simp, by simpa using hl, hm, by simp, ?_⟩, ?_⟩
    · intro hne
      have h0 : 0 < len := by
        rcases Nat.eq_zero_or_pos len with h | h
        · subst h; simp at hne
        · exact h
      obtain ⟨hs, hlt⟩ := hsp h0
      refine ⟨a.block, a.off, ?_, hlt, ?_⟩
      · obtain ⟨b, o, s⟩ := a; dsimp only at hs; subst hs; rfl
      · intro i hi j c hj
        have hi' : i < len := by simpa using hi
        have := (hff i hi').2 j c (by simpa using hj)
        obtain ⟨b, o, s⟩ := a
        dsimp only at hs
        subst hs
        rw [Addr.add_lit, Addr.add_lit] at this
        exact this
    · intro u hu
      obtain ⟨i, hi, rfl⟩ := List.mem_map.1 hu
      exact (hff i (by simpa using hi)).1

/-- an argument of a slice type -/
theorem arg_sl {α : Type} [Inhabited α] {Q : α → Prop} {encL : α → List Value} {t e : TypeId} {k dd : Nat} {ks : List Kd} (ht : P.underlying t = some (.slice e)) (hc : P.cellsOf e = k) (hk : 0 < k) (hf : flat P dd e = some ks) (hks : ks.length = k)
    (hel : ∀ cs, Typed enc P w base spare held ks cs → ∃ u : α, cs = encL u ∧ Q u) {r : Reach} {b0 : Nat} {v : Value} {d : DataW H} {p : List MemPlace} (hv : Value.okWide P w r b0 t v) (h : DataW.Trod enc P w base spare held t v d p) :
    ∃ ao len cap, ∃ l : List α, v = .slice ao len cap ∧ Sl w k encL ao len cap l ∧ ∀ u ∈ l, Q u := by
  obtain ⟨a, len, cap, rfl⟩ := okWide_slice ht hv
  obtain ⟨n, hn⟩ := h
  exact sl_open ht hc hk hf hks hel hn

/-- an argument that is a struct of plain cells, by value -/
theorem arg_agg {t : TypeId} {fs : Array Field} {dd : Nat} {ks : List Kd} (ht : P.underlying t = some (.struct fs)) (hf : flat P dd t = some ks) (hks : ks.length = P.cellsOf t)
    {r : Reach} {b0 : Nat} {v : Value} {d : DataW H} {p : List MemPlace} (hv : Value.okWide P w r b0 t v) (h : DataW.Trod enc P w base spare held t v d p) : ∃ cs : List Value, v = .agg cs.toArray ∧ Typed enc P w base spare held ks cs := by
  obtain ⟨cs, rfl, hsz⟩ := okWide_struct ht hv
  obtain ⟨n, hn⟩ := h
  exact ⟨cs.toList, by simp, flat_open dd t ks hf n _ _ (by simpa [Value.cells] using hn) (by rw [hks, ← hsz]; simp)⟩

theorem Typed.i2 {k0 k1 : IntKind} {vs : List Value} (h : Typed enc P w base spare held [.int k0, .int k1] vs) : ∃ a b, vs = [.int k0 a, .int k1 b] ∧ (Lit.int k0 a).wf = true ∧ (Lit.int k1 b).wf = true := by
  cases h with | cons h0 h => cases h with | cons h1 h => cases h; obtain ⟨a, rfl, w0⟩ := h0; obtain ⟨b, rfl, w1⟩ := h1; exact ⟨a, b, rfl, w0, w1⟩
theorem Typed.i3 {k0 k1 k2 : IntKind} {vs : List Value} (h : Typed enc P w base spare held [.int k0, .int k1, .int k2] vs) : ∃ a b c, vs = [.int k0 a, .int k1 b, .int k2 c] ∧ (Lit.int k0 a).wf = true ∧ (Lit.int k1 b).wf = true ∧ (Lit.int k2 c).wf = true := by
  cases h with | cons h0 h => obtain ⟨a, rfl, w0⟩ := h0; obtain ⟨b, c, rfl, w1, w2⟩ := Typed.i2 h; exact ⟨a, b, c, rfl, w0, w1, w2⟩
theorem Typed.i4 {k0 k1 k2 k3 : IntKind} {vs : List Value} (h : Typed enc P w base spare held [.int k0, .int k1, .int k2, .int k3] vs) : ∃ a b c d, vs = [.int k0 a, .int k1 b, .int k2 c, .int k3 d] ∧ (Lit.int k0 a).wf = true ∧ (Lit.int k1 b).wf = true ∧ (Lit.int k2 c).wf = true ∧ (Lit.int k3 d).wf = true := by
  cases h with | cons h0 h => obtain ⟨a, rfl, w0⟩ := h0; obtain ⟨b, c, d, rfl, w1⟩ := Typed.i3 h; exact ⟨a, b, c, d, rfl, w0, w1⟩
theorem Typed.i5 {k0 k1 k2 k3 k4 : IntKind} {vs : List Value} (h : Typed enc P w base spare held [.int k0, .int k1, .int k2, .int k3, .int k4] vs) : ∃ a b c d e, vs = [.int k0 a, .int k1 b, .int k2 c, .int k3 d, .int k4 e] ∧ (Lit.int k0 a).wf = true ∧ (Lit.int k1 b).wf = true ∧ (Lit.int k2 c).wf = true ∧ (Lit.int k3 d).wf = true ∧ (Lit.int k4 e).wf = true := by
  cases h with | cons h0 h => obtain ⟨a, rfl, w0⟩ := h0; obtain ⟨b, c, d, e, rfl, w1⟩ := Typed.i4 h; exact ⟨a, b, c, d, e, rfl, w0, w1⟩

/-- all arguments read as they did -/
theorem all_stay (hl : laidOutB P = true) {W W' : World} (hb : Below W.heap.size W W') {sp : Nat → Bool} : ∀ (ts : List TypeId) (vs : List Value) (ds : List (DataW H)) (ps : List MemPlace), (∀ t ∈ ts, P.readableRec t = true ∧ t < P.types.size) →
    DataW.TrodAll enc P W 0 (fun _ => true) true ts vs ds ps → (∀ x ∈ ps, x.block < W.heap.size ∧ sp x.block = true) → DataW.TrodAll enc P W' 0 sp true ts vs ds ps
  | [], [], [], ps, _, h, _ => h
  | t :: ts, v :: vs, d :: ds, ps, ht, h, hx => by
    obtain ⟨p, q, h1, h2, rfl⟩ := h
    obtain ⟨hr, hrow⟩ := ht t (by simp)
    exact ⟨p, q, WideElems.Trod_stays hl hr hrow h1 (fun x hx' => hb.same (hx x (by simp [hx'])).1) (fun x hx' => (hx x (by simp [hx'])).2),
      all_stay hl hb ts vs ds q (fun t ht' => ht t (by simp [ht'])) h2 (fun x hx' => hx x (by simp [hx'])), rfl⟩
  | [], _ :: _, _, _, _, h, _ => by simp [DataW.TrodAll] at h
  | [], [], _ :: _, _, _, h, _ => by simp [DataW.TrodAll] at h
  | _ :: _, [], _, _, _, h, _ => by simp [DataW.TrodAll] at h
  | _ :: _, _ :: _, [], _, _, h, _ => by simp [DataW.TrodAll] at h

/-- the end of a call that leaves what was there alone -/
theorem post_of_below {f : Func} {s : ChangeSpec} {apart fresh handsOn again : Bool} {W W' : World} {args : Array Value} {v : Value} {ds gs : List (DataW H)} {before : List MemPlace}
    (hW : DataW.Whole enc P f.params.toList s.vars apart W args.toList ds gs before) (hb : Below W.heap.size W W')
    (hres : ∀ (b : Nat) (sp : Nat → Bool) (hd : Bool), DataW.TrodAll enc P W' b sp hd f.resultTypes.toList (v.resultList f.resultTypes.size) (s.fn H (ds ++ gs)).results [])
    (hargs : ∀ sp : Nat → Bool, (∀ p ∈ before, sp p.block = true) → DataW.TrodAll enc P W' 0 sp true f.params.toList args.toList (s.fn H (ds ++ gs)).args before)
    (hvars : ∀ sp : Nat → Bool, DataW.TrodVars enc P W' sp s.vars (s.fn H (ds ++ gs)).vars [])
    (hok : ∀ (j : Nat) (t : TypeId) (r : Value), f.resultTypes[j]? = some t → (v.resultList f.resultTypes.size)[j]? = some r → Value.okWide P W' .any 0 t r) :
    s.post enc P f apart fresh handsOn again W args v W' := by
  have hold : ∀ p ∈ before, (fun b => decide (b < W.heap.size)) p.block = true := fun p hp => by simpa using hW.lt p hp
  refine ⟨ds, gs, before, [], before, [], hW, hres _ _ _, hargs _ hold, hvars _, World.keptBut_mono (fun p hp => ⟨hp, Or.inr (Or.inl hp)⟩) (hb.frame (· ∈ before)), fun _ => ?_⟩
  have hlt := fun p hp => hW.lt p hp
  obtain ⟨_, _, _, _, _, hz, hn⟩ := hW
  refine ⟨hok, _, _, ([] ++ before) ++ [], ⟨[] ++ before, [], trodAll_append (hargs _ (fun _ _ => rfl)) (hres _ _ _), hvars _, rfl, ?_, ?_⟩, ?_⟩
  · intro b off hp
    have hp' : MemPlace.cell b off ∈ before := by simpa using hp
    rw [show W'.frozen? ⟨b, off, none⟩ = W.frozen? ⟨b, off, none⟩ from hb.frozen (p := ⟨b, off, none⟩) (hlt _ hp')]
    exact hz b off hp'
  · intro ha
    have := hn ha
    simpa using this
  · intro p hp _
    simpa using hp
end
end Sk
