/- The contracts of slices.Clone, slices.Index, slices.Contains and slices.Reverse at ints. -/
import Derived.Test.YtljojgpjgjfddaaTIdx
import Derived.BigRegion
namespace Go.Proofs.Ytljojgpjgjfddaa
open Go.RowKit Go.Maps
set_option linter.unusedVariables false
set_option linter.unusedSimpArgs false

theorem cI_oneT (l : List Int) : ∀ u ∈ l.flatMap cI, u.oneCell' = true := by
  intro u hu
  rw [List.mem_flatMap] at hu
  obtain ⟨x, _, hx⟩ := hu
  simp only [cI, List.mem_cons, List.not_mem_nil, or_false] at hx
  subst hx
  rfl
theorem own_emptyT (w : World) (e size : Nat) : (w.alloc (.cells #[] e)).ownsRow w.heap.size e size (.slice (some ⟨w.heap.size, 0, none⟩) 0 0) 0 [] := by
  refine ⟨by simp, .inr ⟨w.heap.size, 0, #[], rfl, Nat.le_refl _, heap_alloc_new w _, ?_⟩⟩
  simp
set_option maxRecDepth 100000 in
set_option maxHeartbeats 1000000 in
theorem cloneIT_any (a : Option Addr) (c : Nat) (l : List Int) (w : World) (hl : l.length ≤ 1000000) (hne : 0 < l.length) (h : IsRec 1 cI 0 w a l.length l) :
    Calls Try.prog 35 #[.slice a l.length c] w (IntsPost l w) := by
  obtain ⟨b, off, rfl, hb, _⟩ := h.2 hne
  have RA := Lib.hid ((reads_of_rec cI_length h).alloc (Nat.le_refl _) (.cells #[] 3))
  have fo := Lib.hid (cI_oneT l)
  clear h hb
  obtain ⟨i0, hi0, hz0, hz1, hz2⟩ := info_parts infoInt
  have hnil : ∀ (w : World) (a : Option Addr) (n c n' c' : Nat), (binOp .eql 35 (.slice a n c) (.slice none n' c')).run Try.prog w = .ok (.bool a.isNone) w := fun w a n c n' c' => Lib.run_eql_slice_nil w 35 3 a n c n' c' Try.underlying35
  go_enter Try.func35, Try.ntmps35
  go_wp2_with (at_builtin; refine wpList_append_any _ rfl (.tmp 5) (.tmp 6) 35 rfl w.heap.size 3 i0 _ 1 8 Try.underlying35 hi0 hz0 hz1 hz2 rfl (by decide) _ 0 [] rfl (own_emptyT w 3 1) w.heap.size _ l.length c (l.flatMap cI) rfl RA.out fo.out ?c3 ?c4 ?c5 ?_)
  case c3 => unfold maxLen; omega
  case c4 => omega
  case c5 => simp
  intro v1 w1 own1 gr1 _
  try simp only [Nat.zero_add, List.nil_append] at own1
  have bel : Hid (Below w.heap.size w w1) := ((Below.refl _ _).alloc (Nat.le_refl _) _).grown gr1 (by simp) (by intro g e; simp [Value.ownBlock] at e; omega)
  have F : Hid (IntsPost l w (.returned v1) w1) := ⟨v1, rfl, own1, bel.out⟩
  clear own1 gr1
  go_wp2_with fail
  go_ret
  exact F.out
def idxLI (l : List Int) (x : Int) : Int := match (List.range l.length).find? (fun i => x == l.getD i 0) with
  | some i => (i : Int)
  | none => -1
theorem idxLI_at {l : List Int} {x : Int} {k : Nat} (hk : k < l.length) (h : (x == l.getD k 0) = true) (hall : ∀ j, j < k → (x == l.getD j 0) = false) : idxLI l x = (k : Int) := by
  unfold idxLI
  have : (List.range l.length).find? (fun i => x == l.getD i 0) = some k := by
    rw [List.find?_range_eq_some]
    exact ⟨h, List.mem_range.2 hk, fun j hj => by rw [hall j hj]; rfl⟩
  rw [this]
theorem idxLI_no {l : List Int} {x : Int} (hall : ∀ j, j < l.length → (x == l.getD j 0) = false) : idxLI l x = -1 := by
  unfold idxLI
  have : (List.range l.length).find? (fun i => x == l.getD i 0) = none := by
    rw [List.find?_eq_none]
    intro i hi
    rw [hall i (List.mem_range.1 hi)]; simp
  rw [this]
theorem idxLI_mem (l : List Int) (x : Int) : decide (0 ≤ idxLI l x) = decide (x ∈ l) := by
  rw [Bool.eq_iff_iff, decide_eq_true_iff, decide_eq_true_iff]
  unfold idxLI
  cases hf : (List.range l.length).find? (fun i => x == l.getD i 0) with
  | some i =>
    have h1 := List.mem_range.1 (List.mem_of_find?_eq_some hf)
    have h2 : (x == l.getD i 0) = true := by have := List.find?_some (p := fun i => x == l.getD i 0) hf; exact this
    simp only
    constructor
    · intro _
      rw [beq_iff_eq] at h2
      rw [h2]; simp [List.getD, h1]
    · intro _; omega
  | none =>
    simp only
    constructor
    · intro h; omega
    · intro h
      obtain ⟨i, hi, e⟩ := List.getElem_of_mem h
      have := List.find?_eq_none.1 hf i (List.mem_range.2 hi)
      exact absurd (by simp [List.getD, hi, e]) this
def RelIxT (l : List Int) (x : Int) (w0 : World) (i : Value) (wr : World) : Prop := ∃ k : Nat, k ≤ l.length ∧ i = .int .i64 k ∧ (∀ j, j < k → (x == l.getD j 0) = false) ∧ w0 = wr
set_option maxHeartbeats 1000000 in
theorem idxIT_any (l : List Int) (x : Int) (a : Option Addr) (c : Nat) (w : World) (hl : l.length ≤ 1000000) (h : IsRec 1 cI 0 w a l.length l) :
    Calls Try.prog 51 #[.slice a l.length c, .int .i64 x] w fun e w' => e = .returned (.int .i64 (idxLI l x)) ∧ w = w' := by
  have H := Lib.hid h
  clear h
  go_enter Try.func51, Try.ntmps51
  go_wp2_with fail
  go_loopw [8] (fun i wr => RelIxT l x w i wr) (fun i _ => l.length - (RowKit.intOf i).toNat)
  case atStart => exact ⟨0, Nat.zero_le _, rfl, fun j hj => by omega, rfl⟩
  case round =>
    obtain ⟨k, hk, rfl, hall, rfl⟩ := hrel
    have HA := Lib.hid hall
    clear hall
    by_cases hkr : k < l.length
    · obtain ⟨b1, o1, ha1, hb1, hm1, e1⟩ := int_at H.out k hkr
      have FI : Hid ((x == l.getD k 0) = true → idxLI l x = (k : Int)) := fun h => idxLI_at hkr h HA.out
      have NX : Hid ((x == l.getD k 0) = false → RelIxT l x w (.int .i64 ((k + 1 : Nat) : Int)) w) := fun h => ⟨k + 1, by omega, rfl, fun j hj => by
        by_cases e : j = k
        · rw [e]; exact h
        · exact HA.out j (by omega), rfl⟩
      generalize l.getD k 0 = y at *
      subst ha1
      have ki : (k : Int) < (l.length : Int) := by omega
      clear hm1
      cases hq : x == y with
      | true =>
        have F := Lib.hid (FI.out hq)
        clear FI NX
        go_wp2_with fail
        go_ret
        exact ⟨by rw [F.out]; rfl, rfl⟩
      | false =>
        have R := Lib.hid (NX.out hq)
        clear FI NX
        go_wp2_with fail
        exact ⟨by simpa using R.out, by simp [RowKit.intOf]; omega⟩
    · obtain rfl : k = l.length := by omega
      have F := Lib.hid (idxLI_no HA.out)
      go_wp2_with fail
      go_ret
      exact ⟨by rw [F.out]; rfl, rfl⟩
theorem contIT_any (l : List Int) (x : Int) (a : Option Addr) (c : Nat) (w : World) (hl : l.length ≤ 1000000) (h : IsRec 1 cI 0 w a l.length l) :
    Calls Try.prog 38 #[.slice a l.length c, .int .i64 x] w fun e w' => e = .returned (.bool (decide (x ∈ l))) ∧ w = w' := by
  have IX := Lib.hid (idxIT_any l x a c w hl h)
  have M := Lib.hid (idxLI_mem l x)
  clear h
  generalize idxLI l x = z at *
  go_enter Try.func38, Try.ntmps38
  go_wp2_with fail
  refine IX.out.mono ?_
  rintro e w2 ⟨rfl, rfl⟩
  go_wp2_with fail
  go_ret
  exact ⟨by rw [← M.out]; rfl, rfl⟩
/-- One cell of a row that the call owns is set. -/
theorem own_set {w : World} {base e n cap g : Nat} {xs : List Value} (h : w.ownsRow base e 1 (.slice (some ⟨g, 0, none⟩) n cap) n xs) {i : Nat} (hi : i < n) (u : Value) : (w.setCell ⟨g, i, none⟩ u).ownsRow base e 1 (.slice (some ⟨g, 0, none⟩) n cap) n (xs.set i u) := by
  obtain ⟨h1, ⟨h2, _⟩ | ⟨g', cap', cur, h2, hb, hg, hn, hc, hs, ht⟩⟩ := h
  · injection h2 with h2; cases h2
  · injection h2 with h2 _ h3
    injection h2 with h2
    injection h2 with h2
    subst h2
    subst h3
    refine ⟨by rw [List.length_set]; exact h1, .inr ⟨g, cap, cur.setIfInBounds i u, rfl, hb, (show Blk w g e cur from hg).set_ i u, hn, hc, by simpa using hs, ?_⟩⟩
    rw [Array.toList_setIfInBounds, List.take_set, ht]
/-- The list while it is being turned round. -/
def revK (l : List Int) (k : Nat) : List Int := (List.range l.length).map fun x => if x < k ∨ l.length ≤ x + k then l.getD (l.length - 1 - x) 0 else l.getD x 0
theorem revK_len (l : List Int) (k : Nat) : (revK l k).length = l.length := by simp [revK]
theorem revK_get (l : List Int) (k x : Nat) (hx : x < l.length) : (revK l k).getD x 0 = if x < k ∨ l.length ≤ x + k then l.getD (l.length - 1 - x) 0 else l.getD x 0 := by simp [revK, List.getD, hx]
theorem list_extD {l m : List Int} (h : l.length = m.length) (e : ∀ i, i < l.length → l.getD i 0 = m.getD i 0) : l = m := by
  refine List.ext_getElem h fun i h1 h2 => ?_
  have := e i h1
  simpa [List.getD, h1, h2] using this
theorem revK_zero (l : List Int) : revK l 0 = l := list_extD (revK_len l 0) fun i hi => by
  rw [revK_len] at hi
  rw [revK_get l 0 i hi, if_neg (by omega)]
theorem revK_end (l : List Int) (k : Nat) (h : l.length ≤ 2 * k + 1) : revK l k = l.reverse := list_extD (by rw [revK_len, List.length_reverse]) fun i hi => by
  rw [revK_len] at hi
  have e : l.reverse.getD i 0 = l.getD (l.length - 1 - i) 0 := by simp [List.getD, hi, show l.length - 1 - i < l.length by omega]
  rw [revK_get l k i hi, e]
  by_cases q : i < k ∨ l.length ≤ i + k
  · rw [if_pos q]
  · rw [if_neg q]
    have : i = l.length - 1 - i := by omega
    rw [← this]
theorem revK_step (l : List Int) (k : Nat) (h : 2 * k + 1 < l.length) : ((revK l k).set k ((revK l k).getD (l.length - 1 - k) 0)).set (l.length - 1 - k) ((revK l k).getD k 0) = revK l (k + 1) := list_extD (by simp [revK_len]) fun i hi => by
  have hi2 : i < l.length := by simpa [revK_len] using hi
  rw [revK_get l (k + 1) i hi2, revK_get l k k (by omega), revK_get l k (l.length - 1 - k) (by omega), if_neg (by omega), if_neg (by omega)]
  by_cases e1 : i = l.length - 1 - k
  · subst e1
    rw [if_pos (by omega)]
    have : l.length - 1 - (l.length - 1 - k) = k := by omega
    rw [this]
    simp [List.getD, revK_len, show l.length - 1 - k < l.length by omega]
  · by_cases e2 : i = k
    · subst e2
      rw [if_pos (by omega)]
      simp [List.getD, List.getElem?_set, revK_len, show ¬ l.length - 1 - i = i by omega, hi2]
    · have : (((revK l k).set k (l.getD (l.length - 1 - k) 0)).set (l.length - 1 - k) (l.getD k 0)).getD i 0 = (revK l k).getD i 0 := by
        simp [List.getD, List.getElem?_set, show ¬ l.length - 1 - k = i from fun e => e1 e.symm, show ¬ k = i from fun e => e2 e.symm]
      rw [this, revK_get l k i hi2]
      by_cases q : i < k ∨ l.length ≤ i + k
      · rw [if_pos q, if_pos (by omega)]
      · rw [if_neg q, if_neg (by omega)]
theorem set_flat (l : List Int) (i : Nat) (x : Int) : (l.flatMap cI).set i (.int .i64 x) = (l.set i x).flatMap cI := by
  have e : ∀ m : List Int, m.flatMap cI = m.map (fun x => Value.int .i64 x) := fun m => by
    induction m with
    | nil => rfl
    | cons a m ih => rw [List.flatMap_cons, ih]; rfl
  rw [e, e, List.map_set]
def RelRv (l : List Int) (base g cap : Nat) (w0 : World) (i j : Value) (wr : World) : Prop :=
  ∃ k : Nat, 2 * k ≤ l.length ∧ i = .int .i64 k ∧ j = .int .i64 ((l.length : Int) - 1 - k) ∧ wr.ownsRow base 3 1 (.slice (some ⟨g, 0, none⟩) l.length cap) l.length ((revK l k).flatMap cI) ∧ Below base w0 wr ∧ w0.heap.size = wr.heap.size
set_option maxRecDepth 100000 in
set_option maxHeartbeats 2000000 in
theorem reverseI_any (l : List Int) (base g cap : Nat) (w : World) (hl : l.length ≤ 1000000) (h : w.ownsRow base 3 1 (.slice (some ⟨g, 0, none⟩) l.length cap) l.length (l.flatMap cI)) :
    Calls Try.prog 37 #[.slice (some ⟨g, 0, none⟩) l.length cap] w fun e w' => e = .returned (.tuple #[]) ∧ w'.ownsRow base 3 1 (.slice (some ⟨g, 0, none⟩) l.length cap) l.length (l.reverse.flatMap cI) ∧ Below base w w' ∧ w.heap.size = w'.heap.size := by
  have ST : Hid (RelRv l base g cap w (.int .i64 0) (.int .i64 ((l.length : Int) - 1)) w) := ⟨0, Nat.zero_le _, rfl, by simp, by rw [revK_zero]; exact h, Below.refl _ _, rfl⟩
  have GB : Hid (base ≤ g) := (h.lt g rfl).1
  clear h
  have hw : IntKind.i64.wrap ((l.length : Int) - 1) = (l.length : Int) - 1 := IntWalk.i64_in _ (by omega)
  go_enter Try.func37, Try.ntmps37
  go_wp2_with fail
  clear hw
  go_loopw [2, 3] (fun i j wr => RelRv l base g cap w i j wr) (fun i _ _ => l.length - (RowKit.intOf i).toNat)
  case atStart => exact ST.out
  case round =>
    clear ST
    obtain ⟨k, hk, rfl, rfl, own, bel, hsz⟩ := hrel
    have OW := Lib.hid own
    have BE := Lib.hid bel
    have HS := Lib.hid hsz
    by_cases hkr : 2 * k + 1 < l.length
    · obtain ⟨j, hj⟩ : ∃ j : Nat, j = l.length - 1 - k := ⟨_, rfl⟩
      have ej : (l.length : Int) - 1 - k = (j : Int) := by omega
      have ij : k ≠ j := by omega
      have NXT : Hid (∀ wa, (wa.ownsRow base 3 1 (.slice (some ⟨g, 0, none⟩) l.length cap) l.length ((((revK l k).flatMap cI).set k (.int .i64 ((revK l k).getD j 0))).set j (.int .i64 ((revK l k).getD k 0)))) → Below base w wa → w.heap.size = wa.heap.size → RelRv l base g cap w (.int .i64 ((k + 1 : Nat) : Int)) (.int .i64 ((j : Int) - 1)) wa) := fun wa ho hb hs => by
        refine ⟨k + 1, by omega, rfl, by rw [← ej]; congr 1; push_cast; omega, ?_, hb, hs⟩
        rw [set_flat, set_flat, hj, revK_step l k (by omega)] at ho
        exact ho
      have CG : Hid (∀ i, i < l.length → wr.cell? ⟨g, i, none⟩ = some (.int .i64 ((revK l k).getD i 0)) ∧ wr.frozen? ⟨g, i, none⟩ = false) := fun i hi => by
        obtain ⟨_, ⟨h2, _⟩ | ⟨g', cap', cur, h2, _, hg, hn, _, hs, ht⟩⟩ := OW.out
        · injection h2 with h2; cases h2
        · injection h2 with h2 _ h3
          injection h2 with h2
          injection h2 with h2
          subst h2
          have hb : Blk wr g 3 cur := hg
          refine ⟨?_, hb.frozen i⟩
          rw [hb.cell, ← Array.getElem?_toList]
          have e1 : cur.toList[i]? = (cur.toList.take (l.length * 1))[i]? := by rw [List.getElem?_take, if_pos (by omega)]
          rw [e1, ht]
          have e2 : (revK l k).flatMap cI = (revK l k).map (fun x => Value.int .i64 x) := by
            generalize revK l k = m
            induction m with
            | nil => rfl
            | cons a m ih => rw [List.flatMap_cons, ih]; rfl
          rw [e2, List.getElem?_map]
          simp [List.getD, revK_len, hi]
      obtain ⟨ck, fk⟩ := CG.out k (by omega)
      obtain ⟨cj, fj⟩ := CG.out j (by omega)
      have SW : Hid (∀ (xs : List Value) (a b : Value), (xs.set j b).set k a = (xs.set k a).set j b) := fun xs a b => List.set_comm _ _ (by omega)
      have kl : (k : Int) < (l.length : Int) := by omega
      have jl : (j : Int) < (l.length : Int) := by omega
      have kj : (k : Int) < (j : Int) := by omega
      generalize (revK l k).getD k 0 = x at *
      generalize (revK l k).getD j 0 = y at *
      rw [ej]
      clear own bel hsz CG ej hj hk
      have jw : IntKind.i64.wrap ((j : Int) - 1) = (j : Int) - 1 := IntWalk.i64_in _ (by omega)
      have ji : ¬ j = k := by omega
      have e1 : ((k + 1 : Nat) : Int) = (k : Int) + 1 := by omega
      rw [e1] at NXT
      clear e1
      go_wp2_with fail
      go_region_law (fail)
      all_goals
        clear ck cj fk fj
        go_wp2_with fail
        refine ⟨?_, by simp [RowKit.intOf]; omega⟩
        refine NXT.out _ ?_ ?_ ?_
        · first
            | exact own_set (own_set OW.out (by omega) _) (by omega) _
            | (rw [← SW.out]; exact own_set (own_set OW.out (by omega) _) (by omega) _)
        · exact ((BE.out.setCell GB.out _).setCell GB.out _).drew
        · exact HS.out.trans (by simp [World.setCell])
    · have hk2 : l.length ≤ 2 * k + 1 := by omega
      have F : Hid (wr.ownsRow base 3 1 (.slice (some ⟨g, 0, none⟩) l.length cap) l.length (l.reverse.flatMap cI)) := by rw [← revK_end l k hk2]; exact own
      have kj : ¬ ((k : Int) < (l.length : Int) - 1 - k) := by omega
      clear own bel hsz
      go_wp2_with fail
      go_end0
      exact ⟨rfl, F.out, BE.out, HS.out⟩
end Go.Proofs.Ytljojgpjgjfddaa
