/- Several texts in one: TList, TLeg. -/
import Derived.Test.YtljojgpjgjfddaaGreatTCheck
import Derived.BigRegion
import Derived.Test.YtljojgpjgjfddaaGreatTOneP
import Derived.Test.YtljojgpjgjfddaaGreatTDep
import Derived.Test.YtljojgpjgjfddaaGreatCTable
import Derived.IntWalk
import Derived.Test.YtljojgpjgjfddaaGreatCOrder

/- The contracts of slices.Clone, slices.Index, slices.Contains and slices.Reverse at ints. -/
namespace Go.Proofs.YtljojgpjgjfddaaGreat
open Go.RowKit Go.Maps
set_option linter.unusedVariables false
set_option linter.unusedSimpArgs false

theorem cI_oneT (l : List Int) : ∀ u ∈ l.flatMap cI, u.oneCell' = true := by
  intro u hu
  rw [List.mem_flatMap] at hu
  obtain ⟨x, _, hx⟩ := hu
  simp only [cI, List.mem_cons, List.not_mem_nil, or_false] at hx
  subst hx
  rfl
theorem own_emptyT (w : World) (e size : Nat) : (w.alloc (.cells #[] e)).ownsRow w.heap.size e size (.slice (some ⟨w.heap.size, 0, none⟩) 0 0) 0 [] := by
  refine ⟨by simp, .inr ⟨w.heap.size, 0, #[], rfl, Nat.le_refl _, heap_alloc_new w _, ?_⟩⟩
  simp
set_option maxRecDepth 100000 in
set_option maxHeartbeats 1000000 in
theorem cloneIT_any (a : Option Addr) (c : Nat) (l : List Int) (w : World) (hl : l.length ≤ 1000000) (hne : 0 < l.length) (h : IsRec 1 cI 0 w a l.length l) :
    Calls Tryz.prog 77 #[.slice a l.length c] w (IntsPost l w) := by
  obtain ⟨b, off, rfl, hb, _⟩ := h.2 hne
  have RA := Lib.hid ((reads_of_rec cI_length h).alloc (Nat.le_refl _) (.cells #[] 3))
  have fo := Lib.hid (cI_oneT l)
  clear h hb
  obtain ⟨i0, hi0, hz0, hz1, hz2⟩ := info_parts infoInt
  have hnil : ∀ (w : World) (a : Option Addr) (n c n' c' : Nat), (binOp .eql 28 (.slice a n c) (.slice none n' c')).run Tryz.prog w = .ok (.bool a.isNone) w := fun w a n c n' c' => Lib.run_eql_slice_nil w 28 3 a n c n' c' Tryz.underlying28
  go_enter Tryz.func77, Tryz.ntmps77
  go_wp2_with (at_builtin; refine wpList_append_any _ rfl (.tmp 5) (.tmp 6) 28 rfl w.heap.size 3 i0 _ 1 8 Tryz.underlying28 hi0 hz0 hz1 hz2 rfl (by decide) _ 0 [] rfl (own_emptyT w 3 1) w.heap.size _ l.length c (l.flatMap cI) rfl RA.out fo.out ?c3 ?c4 ?c5 ?_)
  case c3 => unfold maxLen; omega
  case c4 => omega
  case c5 => simp
  intro v1 w1 own1 gr1 _
  try simp only [Nat.zero_add, List.nil_append] at own1
  have bel : Hid (Below w.heap.size w w1) := ((Below.refl _ _).alloc (Nat.le_refl _) _).grown gr1 (by simp) (by intro g e; simp [Value.ownBlock] at e; omega)
  have F : Hid (IntsPost l w (.returned v1) w1) := ⟨v1, rfl, own1, bel.out⟩
  clear own1 gr1
  go_wp2_with fail
  go_ret
  exact F.out
def idxLI (l : List Int) (x : Int) : Int := match (List.range l.length).find? (fun i => x == l.getD i 0) with
  | some i => (i : Int)
  | none => -1
theorem idxLI_at {l : List Int} {x : Int} {k : Nat} (hk : k < l.length) (h : (x == l.getD k 0) = true) (hall : ∀ j, j < k → (x == l.getD j 0) = false) : idxLI l x = (k : Int) := by
  unfold idxLI
  have : (List.range l.length).find? (fun i => x == l.getD i 0) = some k := by
    rw [List.find?_range_eq_some]
    exact ⟨h, List.mem_range.2 hk, fun j hj => by rw [hall j hj]; rfl⟩
  rw [this]
theorem idxLI_no {l : List Int} {x : Int} (hall : ∀ j, j < l.length → (x == l.getD j 0) = false) : idxLI l x = -1 := by
  unfold idxLI
  have : (List.range l.length).find? (fun i => x == l.getD i 0) = none := by
    rw [List.find?_eq_none]
    intro i hi
    rw [hall i (List.mem_range.1 hi)]; simp
  rw [this]
theorem idxLI_mem (l : List Int) (x : Int) : decide (0 ≤ idxLI l x) = decide (x ∈ l) := by
  rw [Bool.eq_iff_iff, decide_eq_true_iff, decide_eq_true_iff]
  unfold idxLI
  cases hf : (List.range l.length).find? (fun i => x == l.getD i 0) with
  | some i =>
    have h1 := List.mem_range.1 (List.mem_of_find?_eq_some hf)
    have h2 : (x == l.getD i 0) = true := by have := List.find?_some (p := fun i => x == l.getD i 0) hf; exact this
    simp only
    constructor
    · intro _
      rw [beq_iff_eq] at h2
      rw [h2]; simp [List.getD, h1]
    · intro _; omega
  | none =>
    simp only
    constructor
    · intro h; omega
    · intro h
      obtain ⟨i, hi, e⟩ := List.getElem_of_mem h
      have := List.find?_eq_none.1 hf i (List.mem_range.2 hi)
      exact absurd (by simp [List.getD, hi, e]) this
def RelIxT (l : List Int) (x : Int) (w0 : World) (i : Value) (wr : World) : Prop := ∃ k : Nat, k ≤ l.length ∧ i = .int .i64 k ∧ (∀ j, j < k → (x == l.getD j 0) = false) ∧ w0 = wr
set_option maxHeartbeats 1000000 in
theorem idxIT_any (l : List Int) (x : Int) (a : Option Addr) (c : Nat) (w : World) (hl : l.length ≤ 1000000) (h : IsRec 1 cI 0 w a l.length l) :
    Calls Tryz.prog 78 #[.slice a l.length c, .int .i64 x] w fun e w' => e = .returned (.int .i64 (idxLI l x)) ∧ w = w' := by
  have H := Lib.hid h
  clear h
  go_enter Tryz.func78, Tryz.ntmps78
  go_wp2_with fail
  go_loopw [8] (fun i wr => RelIxT l x w i wr) (fun i _ => l.length - (RowKit.intOf i).toNat)
  case atStart => exact ⟨0, Nat.zero_le _, rfl, fun j hj => by omega, rfl⟩
  case round =>
    obtain ⟨k, hk, rfl, hall, rfl⟩ := hrel
    have HA := Lib.hid hall
    clear hall
    by_cases hkr : k < l.length
    · obtain ⟨b1, o1, ha1, hb1, hm1, e1⟩ := int_at H.out k hkr
      have FI : Hid ((x == l.getD k 0) = true → idxLI l x = (k : Int)) := fun h => idxLI_at hkr h HA.out
      have NX : Hid ((x == l.getD k 0) = false → RelIxT l x w (.int .i64 ((k + 1 : Nat) : Int)) w) := fun h => ⟨k + 1, by omega, rfl, fun j hj => by
        by_cases e : j = k
        · rw [e]; exact h
        · exact HA.out j (by omega), rfl⟩
      generalize l.getD k 0 = y at *
      subst ha1
      have ki : (k : Int) < (l.length : Int) := by omega
      clear hm1
      cases hq : x == y with
      | true =>
        have F := Lib.hid (FI.out hq)
        clear FI NX
        go_wp2_with fail
        go_ret
        exact ⟨by rw [F.out]; rfl, rfl⟩
      | false =>
        have R := Lib.hid (NX.out hq)
        clear FI NX
        go_wp2_with fail
        exact ⟨by simpa using R.out, by simp [RowKit.intOf]; omega⟩
    · obtain rfl : k = l.length := by omega
      have F := Lib.hid (idxLI_no HA.out)
      go_wp2_with fail
      go_ret
      exact ⟨by rw [F.out]; rfl, rfl⟩
/-- One cell of a row that the call owns is set. -/
theorem own_set {w : World} {base e n cap g : Nat} {xs : List Value} (h : w.ownsRow base e 1 (.slice (some ⟨g, 0, none⟩) n cap) n xs) {i : Nat} (hi : i < n) (u : Value) : (w.setCell ⟨g, i, none⟩ u).ownsRow base e 1 (.slice (some ⟨g, 0, none⟩) n cap) n (xs.set i u) := by
  obtain ⟨h1, ⟨h2, _⟩ | ⟨g', cap', cur, h2, hb, hg, hn, hc, hs, ht⟩⟩ := h
  · injection h2 with h2; cases h2
  · injection h2 with h2 _ h3
    injection h2 with h2
    injection h2 with h2
    subst h2
    subst h3
    refine ⟨by rw [List.length_set]; exact h1, .inr ⟨g, cap, cur.setIfInBounds i u, rfl, hb, (show Blk w g e cur from hg).set_ i u, hn, hc, by simpa using hs, ?_⟩⟩
    rw [Array.toList_setIfInBounds, List.take_set, ht]
/-- The list while it is being turned round. -/
def revK (l : List Int) (k : Nat) : List Int := (List.range l.length).map fun x => if x < k ∨ l.length ≤ x + k then l.getD (l.length - 1 - x) 0 else l.getD x 0
theorem revK_len (l : List Int) (k : Nat) : (revK l k).length = l.length := by simp [revK]
theorem revK_get (l : List Int) (k x : Nat) (hx : x < l.length) : (revK l k).getD x 0 = if x < k ∨ l.length ≤ x + k then l.getD (l.length - 1 - x) 0 else l.getD x 0 := by simp [revK, List.getD, hx]
theorem list_extD {l m : List Int} (h : l.length = m.length) (e : ∀ i, i < l.length → l.getD i 0 = m.getD i 0) : l = m := by
  refine List.ext_getElem h fun i h1 h2 => ?_
  have := e i h1
  simpa [List.getD, h1, h2] using this
theorem revK_zero (l : List Int) : revK l 0 = l := list_extD (revK_len l 0) fun i hi => by
  rw [revK_len] at hi
  rw [revK_get l 0 i hi, if_neg (by omega)]
theorem revK_end (l : List Int) (k : Nat) (h : l.length ≤ 2 * k + 1) : revK l k = l.reverse := list_extD (by rw [revK_len, List.length_reverse]) fun i hi => by
  rw [revK_len] at hi
  have e : l.reverse.getD i 0 = l.getD (l.length - 1 - i) 0 := by simp [List.getD, hi, show l.length - 1 - i < l.length by omega]
  rw [revK_get l k i hi, e]
  by_cases q : i < k ∨ l.length ≤ i + k
  · rw [if_pos q]
  · rw [if_neg q]
    have : i = l.length - 1 - i := by omega
    rw [← this]
theorem revK_step (l : List Int) (k : Nat) (h : 2 * k + 1 < l.length) : ((revK l k).set k ((revK l k).getD (l.length - 1 - k) 0)).set (l.length - 1 - k) ((revK l k).getD k 0) = revK l (k + 1) := list_extD (by simp [revK_len]) fun i hi => by
  have hi2 : i < l.length := by simpa [revK_len] using hi
  rw [revK_get l (k + 1) i hi2, revK_get l k k (by omega), revK_get l k (l.length - 1 - k) (by omega), if_neg (by omega), if_neg (by omega)]
  by_cases e1 : i = l.length - 1 - k
  · subst e1
    rw [if_pos (by omega)]
    have : l.length - 1 - (l.length - 1 - k) = k := by omega
    rw [this]
    simp [List.getD, revK_len, show l.length - 1 - k < l.length by omega]
  · by_cases e2 : i = k
    · subst e2
      rw [if_pos (by omega)]
      simp [List.getD, List.getElem?_set, revK_len, show ¬ l.length - 1 - i = i by omega, hi2]
    · have : (((revK l k).set k (l.getD (l.length - 1 - k) 0)).set (l.length - 1 - k) (l.getD k 0)).getD i 0 = (revK l k).getD i 0 := by
        simp [List.getD, List.getElem?_set, show ¬ l.length - 1 - k = i from fun e => e1 e.symm, show ¬ k = i from fun e => e2 e.symm]
      rw [this, revK_get l k i hi2]
      by_cases q : i < k ∨ l.length ≤ i + k
      · rw [if_pos q, if_pos (by omega)]
      · rw [if_neg q, if_neg (by omega)]
theorem set_flat (l : List Int) (i : Nat) (x : Int) : (l.flatMap cI).set i (.int .i64 x) = (l.set i x).flatMap cI := by
  have e : ∀ m : List Int, m.flatMap cI = m.map (fun x => Value.int .i64 x) := fun m => by
    induction m with
    | nil => rfl
    | cons a m ih => rw [List.flatMap_cons, ih]; rfl
  rw [e, e, List.map_set]
def RelRv (l : List Int) (base g cap : Nat) (w0 : World) (i j : Value) (wr : World) : Prop :=
  ∃ k : Nat, 2 * k ≤ l.length ∧ i = .int .i64 k ∧ j = .int .i64 ((l.length : Int) - 1 - k) ∧ wr.ownsRow base 3 1 (.slice (some ⟨g, 0, none⟩) l.length cap) l.length ((revK l k).flatMap cI) ∧ Below base w0 wr ∧ w0.heap.size = wr.heap.size
set_option maxRecDepth 100000 in
set_option maxHeartbeats 2000000 in
theorem reverseI_any (l : List Int) (base g cap : Nat) (w : World) (hl : l.length ≤ 1000000) (h : w.ownsRow base 3 1 (.slice (some ⟨g, 0, none⟩) l.length cap) l.length (l.flatMap cI)) :
    Calls Tryz.prog 64 #[.slice (some ⟨g, 0, none⟩) l.length cap] w fun e w' => e = .returned (.tuple #[]) ∧ w'.ownsRow base 3 1 (.slice (some ⟨g, 0, none⟩) l.length cap) l.length (l.reverse.flatMap cI) ∧ Below base w w' ∧ w.heap.size = w'.heap.size := by
  have ST : Hid (RelRv l base g cap w (.int .i64 0) (.int .i64 ((l.length : Int) - 1)) w) := ⟨0, Nat.zero_le _, rfl, by simp, by rw [revK_zero]; exact h, Below.refl _ _, rfl⟩
  have GB : Hid (base ≤ g) := (h.lt g rfl).1
  clear h
  have hw : IntKind.i64.wrap ((l.length : Int) - 1) = (l.length : Int) - 1 := IntWalk.i64_in _ (by omega)
  go_enter Tryz.func64, Tryz.ntmps64
  go_wp2_with fail
  clear hw
  go_loopw [2, 3] (fun i j wr => RelRv l base g cap w i j wr) (fun i _ _ => l.length - (RowKit.intOf i).toNat)
  case atStart => exact ST.out
  case round =>
    clear ST
    obtain ⟨k, hk, rfl, rfl, own, bel, hsz⟩ := hrel
    have OW := Lib.hid own
    have BE := Lib.hid bel
    have HS := Lib.hid hsz
    by_cases hkr : 2 * k + 1 < l.length
    · obtain ⟨j, hj⟩ : ∃ j : Nat, j = l.length - 1 - k := ⟨_, rfl⟩
      have ej : (l.length : Int) - 1 - k = (j : Int) := by omega
      have ij : k ≠ j := by omega
      have NXT : Hid (∀ wa, (wa.ownsRow base 3 1 (.slice (some ⟨g, 0, none⟩) l.length cap) l.length ((((revK l k).flatMap cI).set k (.int .i64 ((revK l k).getD j 0))).set j (.int .i64 ((revK l k).getD k 0)))) → Below base w wa → w.heap.size = wa.heap.size → RelRv l base g cap w (.int .i64 ((k + 1 : Nat) : Int)) (.int .i64 ((j : Int) - 1)) wa) := fun wa ho hb hs => by
        refine ⟨k + 1, by omega, rfl, by rw [← ej]; congr 1; push_cast; omega, ?_, hb, hs⟩
        rw [set_flat, set_flat, hj, revK_step l k (by omega)] at ho
        exact ho
      have CG : Hid (∀ i, i < l.length → wr.cell? ⟨g, i, none⟩ = some (.int .i64 ((revK l k).getD i 0)) ∧ wr.frozen? ⟨g, i, none⟩ = false) := fun i hi => by
        obtain ⟨_, ⟨h2, _⟩ | ⟨g', cap', cur, h2, _, hg, hn, _, hs, ht⟩⟩ := OW.out
        · injection h2 with h2; cases h2
        · injection h2 with h2 _ h3
          injection h2 with h2
          injection h2 with h2
          subst h2
          have hb : Blk wr g 3 cur := hg
          refine ⟨?_, hb.frozen i⟩
          rw [hb.cell, ← Array.getElem?_toList]
          have e1 : cur.toList[i]? = (cur.toList.take (l.length * 1))[i]? := by rw [List.getElem?_take, if_pos (by omega)]
          rw [e1, ht]
          have e2 : (revK l k).flatMap cI = (revK l k).map (fun x => Value.int .i64 x) := by
            generalize revK l k = m
            induction m with
            | nil => rfl
            | cons a m ih => rw [List.flatMap_cons, ih]; rfl
          rw [e2, List.getElem?_map]
          simp [List.getD, revK_len, hi]
      obtain ⟨ck, fk⟩ := CG.out k (by omega)
      obtain ⟨cj, fj⟩ := CG.out j (by omega)
      have SW : Hid (∀ (xs : List Value) (a b : Value), (xs.set j b).set k a = (xs.set k a).set j b) := fun xs a b => List.set_comm _ _ (by omega)
      have kl : (k : Int) < (l.length : Int) := by omega
      have jl : (j : Int) < (l.length : Int) := by omega
      have kj : (k : Int) < (j : Int) := by omega
      generalize (revK l k).getD k 0 = x at *
      generalize (revK l k).getD j 0 = y at *
      rw [ej]
      clear own bel hsz CG ej hj hk
      have jw : IntKind.i64.wrap ((j : Int) - 1) = (j : Int) - 1 := IntWalk.i64_in _ (by omega)
      have ji : ¬ j = k := by omega
      have e1 : ((k + 1 : Nat) : Int) = (k : Int) + 1 := by omega
      rw [e1] at NXT
      clear e1
      go_wp2_with fail
      go_region_law (fail)
      all_goals
        clear ck cj fk fj
        go_wp2_with fail
        refine ⟨?_, by simp [RowKit.intOf]; omega⟩
        refine NXT.out _ ?_ ?_ ?_
        · first
            | exact own_set (own_set OW.out (by omega) _) (by omega) _
            | (rw [← SW.out]; exact own_set (own_set OW.out (by omega) _) (by omega) _)
        · exact ((BE.out.setCell GB.out _).setCell GB.out _).drew
        · exact HS.out.trans (by simp [World.setCell])
    · have hk2 : l.length ≤ 2 * k + 1 := by omega
      have F : Hid (wr.ownsRow base 3 1 (.slice (some ⟨g, 0, none⟩) l.length cap) l.length (l.reverse.flatMap cI)) := by rw [← revK_end l k hk2]; exact own
      have kj : ¬ ((k : Int) < (l.length : Int) - 1 - k) := by omega
      clear own bel hsz
      go_wp2_with fail
      go_end0
      exact ⟨rfl, F.out, BE.out, HS.out⟩
end Go.Proofs.YtljojgpjgjfddaaGreat

/- Several texts in one: TLegP, TLegA, TLegB, TLegC, TLegD. -/
/- Legal paths in plain Lean: what updown.Legal answers at a walk over cables that are there; the walks of the made tree are legal. No program in sight. -/
namespace Go.Proofs.YtljojgpjgjfddaaGreat
open Go.RowKit Go.Maps
set_option linter.unusedVariables false
set_option linter.unusedSimpArgs false

theorem above_iff {lv : List Int} {a b : Nat} : aboveB lv (a : Int) (b : Int) = true ↔ a < lv.length ∧ b < lv.length ∧ 0 ≤ lv.getD a 0 ∧ 0 ≤ lv.getD b 0 ∧ (lv.getD a 0 < lv.getD b 0 ∨ (lv.getD a 0 = lv.getD b 0 ∧ a < b)) := by
  unfold aboveB hasB lvAt
  simp only [Int.toNat_natCast, Bool.and_eq_true, decide_eq_true_eq]
  have h : orL [cmpZ (lv.getD a 0) (lv.getD b 0), cmpZ (a : Int) (b : Int)] < 0 ↔ (lv.getD a 0 < lv.getD b 0 ∨ (lv.getD a 0 = lv.getD b 0 ∧ a < b)) := by
    generalize lv.getD a 0 = x
    generalize lv.getD b 0 = y
    unfold orL cmpZ
    by_cases h1 : x < y
    · simp [h1]
    · by_cases h2 : y < x
      · rw [if_neg h1, if_pos h2]; simp; omega
      · rw [if_neg h1, if_neg h2]
        simp only [ne_eq, not_true_eq_false, if_false]
        unfold orL orL
        by_cases h3 : (a : Int) < b
        · rw [if_pos h3]; simp; omega
        · rw [if_neg h3]
          by_cases h4 : (b : Int) < a
          · rw [if_pos h4]; simp; omega
          · rw [if_neg h4]; simp; omega
  rw [h]
  constructor
  · rintro ⟨⟨⟨⟨h1, h2⟩, h3⟩, ⟨h4, h5⟩, h6⟩, h7⟩
    exact ⟨by omega, by omega, h3, h6, h7⟩
  · rintro ⟨h1, h2, h3, h4, h5⟩
    exact ⟨⟨⟨⟨by omega, by omega⟩, h3⟩, ⟨by omega, by omega⟩, h4⟩, h5⟩
abbrev St := Nat × Bool
def upB (lv : List Int) (u v : Nat) : Bool := aboveB lv (v : Int) (u : Int)
def perS (lv : List Int) (s : St) (o : Nat) : Bool := !upB lv s.1 o || !s.2
def isnB (n : Nat) (node : Int) : Bool := decide (0 ≤ node ∧ node < n)
/-- The nodes of a walk, the first one included. -/
def nodesW (cs : List Cb) (s : Nat) (W : List (Nat × Int)) : List Nat := s :: W.map fun p => othN cs p.1 p.2.toNat
def fallI (lv : List Int) (N : List Nat) (i : Nat) : Bool := if i = 0 then false else !upB lv (N.getD (i - 1) 0) (N.getD i 0)
def stepOk (lv : List Int) (N : List Nat) (P : List Int) (i : Nat) : Bool := perS lv (N.getD i 0, fallI lv N i) (N.getD (i + 1) 0) && !(decide (0 < i) && P.getD i 0 == P.getD (i - 1) 0)
def lvOk (lv : List Int) (u : Nat) : Bool := decide (0 ≤ lv.getD u 0)
def legB (lv : List Int) (N : List Nat) (P : List Int) : Bool := N.all (lvOk lv) && (List.range P.length).all (stepOk lv N P)
/-- A walk over cables that are there. -/
def WkOk (ns : List Nd) (cs : List Cb) (s : Nat) (W : List (Nat × Int)) (v : Nat) : Prop :=
  chn cs s W v ∧ s < ns.length ∧ ∀ p ∈ W, ∃ k : Nat, p.2 = k ∧ k < cs.length ∧ touchT (cs.getD k cb0) p.1 (othN cs p.1 k) ∧ p.1 < ns.length ∧ othN cs p.1 k < ns.length
theorem nodesW_len (cs : List Cb) (s : Nat) (W : List (Nat × Int)) : (nodesW cs s W).length = W.length + 1 := by unfold nodesW; simp
theorem nodesW_at (cs : List Cb) : ∀ (W : List (Nat × Int)) (s v i : Nat), chn cs s W v → i < W.length → (nodesW cs s W).getD i 0 = (W.getD i (0, 0)).1 ∧ (nodesW cs s W).getD (i + 1) 0 = othN cs (W.getD i (0, 0)).1 (W.getD i (0, 0)).2.toNat := by
  intro W
  induction W with
  | nil => intro s v i _ h; cases h
  | cons p W ih =>
    intro s v i hc hi
    obtain ⟨h1, h2⟩ := hc
    cases i with
    | zero => exact ⟨by simp [nodesW, h1], by simp [nodesW]⟩
    | succ i =>
      have hi' : i < W.length := by simpa using hi
      obtain ⟨h3, h4⟩ := ih _ v i h2 hi'
      have e : ∀ j, (nodesW cs s (p :: W)).getD (j + 1) 0 = (nodesW cs (othN cs p.1 p.2.toNat) W).getD j 0 := fun j => by simp [nodesW]
      exact ⟨by rw [e, h3]; rfl, by rw [e, h4]; rfl⟩
section
variable {ns : List Nd} {cs : List Cb} {lv ms : List Int} {s : Nat}
/-- The walks of the made tree are legal. -/
theorem MOk.legal (h : MOk ns cs lv ms s) {W : List (Nat × Int)} {v : Nat} (hc : chn cs s W v) (hW : ∀ p ∈ W, p.2 ∈ (rowsM ns cs lv ms s).getD p.1 []) : legB lv (nodesW cs s W) (W.map (·.2)) = true := by
  have mem : ∀ i, i < W.length → W.getD i (0, 0) ∈ W := fun i hi => by simp [List.getD, hi]
  have edg : ∀ i, i < W.length → (W.getD i (0, 0)).2 ∈ (rowsM ns cs lv ms s).getD (W.getD i (0, 0)).1 [] := fun i hi => hW _ (mem i hi)
  have up : ∀ u, u < ns.length → 0 < lv.getD u 0 → upB lv u (pnT cs lv u) = true := fun u hu hl => by
    obtain ⟨_, _, _, _, hn, e⟩ := h.T.up hu hl
    unfold upB
    rw [above_iff, h.T.len]
    exact ⟨hn, hu, by omega, by omega, .inl (by omega)⟩
  have down : ∀ c, c < ns.length → 0 < lv.getD c 0 → upB lv (pnT cs lv c) c = false := fun c hc hl => by
    obtain ⟨_, _, _, _, hn, e⟩ := h.T.up hc hl
    cases q : upB lv (pnT cs lv c) c with
    | false => rfl
    | true =>
      unfold upB at q
      rw [above_iff] at q
      omega
  have lvn : ∀ i, i < W.length → 0 ≤ lv.getD (othN cs (W.getD i (0, 0)).1 (W.getD i (0, 0)).2.toNat) 0 := fun i hi => by
    obtain ⟨hu, _, h0, ⟨h1, _, _, e, _⟩ | ⟨c, hc1, hc2, _, _, e, _⟩⟩ := h.edge (edg i hi)
    · obtain ⟨_, _, _, _, _, e2⟩ := h.T.up hu h1
      rw [e]; omega
    · rw [e]; omega
  unfold legB
  rw [Bool.and_eq_true, List.all_eq_true, List.all_eq_true]
  constructor
  · intro u hu
    unfold lvOk
    rw [decide_eq_true_eq]
    unfold nodesW at hu
    rcases List.mem_cons.1 hu with rfl | hu
    · exact h.s0
    · obtain ⟨p, hp, rfl⟩ := List.mem_map.1 hu
      obtain ⟨i, hi, e⟩ := List.getElem_of_mem hp
      have := lvn i hi
      rw [show W.getD i (0, 0) = p by simp [List.getD, hi, e]] at this
      exact this
  · intro i hi
    rw [List.mem_range, List.length_map] at hi
    obtain ⟨n1, n2⟩ := nodesW_at cs W s v i hc hi
    have pat : ∀ j, j < W.length → (W.map (·.2)).getD j 0 = (W.getD j (0, 0)).2 := fun j hj => by simp [List.getD, hj]
    unfold stepOk
    rw [Bool.and_eq_true]
    obtain ⟨hu, ho, h0, hcase⟩ := h.edge (edg i hi)
    constructor
    · unfold perS
      simp only
      rw [n1, n2]
      rcases hcase with ⟨h1, hb, _, e, _⟩ | ⟨c, hc1, hc2, _, hp, e, _⟩
      · rw [e, up _ hu h1]
        have : fallI lv (nodesW cs s W) i = false := by
          unfold fallI
          by_cases i0 : i = 0
          · rw [if_pos i0]
          · rw [if_neg i0]
            obtain ⟨m1, m2⟩ := nodesW_at cs W s v (i - 1) hc (by omega)
            rw [show i - 1 + 1 = i by omega] at m2
            obtain ⟨hu', _, _, ⟨h1', _, _, e', _⟩ | ⟨c', hc1', hc2', _, hp', e', hnb, _⟩⟩ := h.edge (edg (i - 1) (by omega))
            · rw [m1, m2, e', up _ hu' h1']; rfl
            · exfalso
              rw [e', n1] at m2
              rw [m2] at hb
              exact hnb hb
        rw [this]; rfl
      · rw [e, ← hp, down c hc1 hc2]; rfl
    · by_cases i0 : i = 0
      · subst i0; simp
      · obtain ⟨m1, m2⟩ := nodesW_at cs W s v (i - 1) hc (by omega)
        rw [show i - 1 + 1 = i by omega] at m2
        rw [pat i hi, pat (i - 1) (by omega)]
        have : ((W.getD i (0, 0)).2 == (W.getD (i - 1) (0, 0)).2) = false := by
          rw [beq_eq_false_iff_ne]
          intro e
          have g1 := h.intree.go _ _ (edg (i - 1) (by omega))
          have g2 := h.intree.go _ _ (edg i hi)
          obtain ⟨k, hk, _, ht, _⟩ := rows_touch h.T.hv h.rows_ok (edg (i - 1) (by omega))
          rw [e] at g2
          rw [hk, Int.toNat_natCast] at g1 g2
          rw [n1, hk, Int.toNat_natCast] at m2
          rw [← m2] at ht g1
          have : othN cs (W.getD i (0, 0)).1 k = (W.getD (i - 1) (0, 0)).1 := oth_of (touchT_symm ht)
          rw [this] at g2
          omega
        rw [this]; simp
end
end Go.Proofs.YtljojgpjgjfddaaGreat

/- The contracts of updown.step, isNode, across, isCable. -/
namespace Go.Proofs.YtljojgpjgjfddaaGreat
open Go.RowKit Go.Maps
set_option linter.unusedVariables false
set_option linter.unusedSimpArgs false

set_option maxHeartbeats 1000000 in
theorem step_any (lv : List Int) (Al : Option Addr) (cl : Nat) (s : St) (o : Nat) (w : World) (hl : lv.length ≤ 1000000) (h : IsRec 1 cI 0 w Al lv.length lv) :
    Calls Tryz.prog 109 #[.agg #[.slice Al lv.length cl], .agg #[.int .i64 (s.1 : Int), .bool s.2], .int .i64 (o : Int)] w fun e w' =>
      e = .returned (.tuple #[.agg #[.int .i64 (o : Int), .bool (!upB lv s.1 o)], .bool (perS lv s o)]) ∧ Below w.heap.size w w' := by
  obtain ⟨u, fl⟩ := s
  simp only
  obtain ⟨w1, hw1⟩ : ∃ w1 : World, ((w.alloc (.cells #[.slice Al lv.length cl] 30)).alloc (.cells #[.int .i64 (u : Int), .bool fl] 144)).alloc (.cells #[.int .i64 0, .bool false] 144) = w1 := ⟨_, rfl⟩
  have BW0 : Below w.heap.size w w1 := by rw [← hw1]; exact (((Below.refl _ _).alloc (Nat.le_refl _) _).alloc (by simp) _).alloc (by simp; omega) _
  have s0 : w1.cell? ⟨w.heap.size, 0, none⟩ = some (.slice Al lv.length cl) := by rw [← hw1]; simp [go_sem]
  have s1 : w1.cell? ⟨w.heap.size + 1, 0, none⟩ = some (.int .i64 (u : Int)) := by rw [← hw1]; simp [go_sem]
  have s2 : w1.cell? ⟨w.heap.size + 1, 1, none⟩ = some (.bool fl) := by rw [← hw1]; simp [go_sem]
  have R1 : Hid (Blk w1 (w.heap.size + 1 + 1) 144 #[.int .i64 0, .bool false]) := by
    rw [← hw1]
    have := Blk.new ((w.alloc (.cells #[.slice Al lv.length cl] 30)).alloc (.cells #[.int .i64 (u : Int), .bool fl] 144)) 144 #[.int .i64 0, .bool false]
    rw [Hid]; simpa using this
  have sz1 : w.heap.size + 1 + 1 < w1.heap.size := by rw [← hw1]; simp
  have L1 := Lib.hid (h.below (Nat.le_refl _) BW0)
  have BW := Lib.hid BW0
  have HC := Lib.hid (above_any lv Al cl (o : Int) (u : Int) w1 hl L1.out)
  have HW1 := Lib.hid hw1
  clear h hw1 BW0
  go_enter Tryz.func109, Tryz.ntmps109
  go_wp2_with fail
  rw [HW1.out]
  refine HC.out.mono ?_
  rintro e w2 ⟨rfl, bel⟩
  have c0 := (bel.cell (p := ⟨w.heap.size + 1, 0, none⟩) (by show w.heap.size + 1 < _; omega)).trans s1
  have c1 := (bel.cell (p := ⟨w.heap.size + 1, 1, none⟩) (by show w.heap.size + 1 < _; omega)).trans s2
  have R2 := R1.out.below bel R1.out.lt
  have r0 : w2.cell? ⟨w.heap.size + 1 + 1, 0, none⟩ = some (.int .i64 0) := by rw [R2.cell]; rfl
  have r1 : w2.cell? ⟨w.heap.size + 1 + 1, 1, none⟩ = some (.bool false) := by rw [R2.cell]; rfl
  have q0 : w2.frozen? ⟨w.heap.size + 1 + 1, 0, none⟩ = false := R2.frozen 0
  have q1 : w2.frozen? ⟨w.heap.size + 1 + 1, 1, none⟩ = false := R2.frozen 1
  have BF : Hid (Below w.heap.size w w2) := BW.out.trans (bel.mono BW.out.size)
  clear bel HC s0 s1 s2 HW1 R2
  have E : aboveB lv (o : Int) (u : Int) = upB lv u o := rfl
  rw [E]
  clear E
  have P : Hid (perS lv (u, fl) o = (!upB lv u o || !fl)) := rfl
  cases hu : upB lv u o with
  | false =>
    have U := Lib.hid hu
    rw [hu] at P
    clear hu
    go_wp2_with fail
    go_region
    all_goals
      go_wp2_with fail
      refine bodyPost_ret (v := .tuple #[.agg #[.int .i64 (o : Int), .bool true], .bool true]) (by simp [results, Tryz.results109, go_sem, r0, r1]) rfl ?_
      exact ⟨by rw [P.out, U.out]; rfl, ((BF.out.setCell (by simp; omega) _).setCell (by simp; omega) _).drew⟩
  | true =>
    have U := Lib.hid hu
    rw [hu] at P
    clear hu
    cases fl
    all_goals
      go_wp2_with fail
      go_region
      all_goals
        go_wp2_with fail
        first
          | refine bodyPost_ret (v := .tuple #[.agg #[.int .i64 (o : Int), .bool false], .bool true]) (by simp [results, Tryz.results109, go_sem, r0, r1]) rfl ⟨by rw [P.out, U.out]; rfl, ((BF.out.setCell (by simp; omega) _).setCell (by simp; omega) _).drew⟩
          | refine bodyPost_ret (v := .tuple #[.agg #[.int .i64 (o : Int), .bool false], .bool false]) (by simp [results, Tryz.results109, go_sem, r0, r1]) rfl ⟨by rw [P.out, U.out]; rfl, ((BF.out.setCell (by simp; omega) _).setCell (by simp; omega) _).drew⟩
set_option maxHeartbeats 1000000 in
theorem unode_any (An Ac : Option Addr) (n cn m cc : Nat) (node : Int) (w : World) (hl : n ≤ 1000000) :
    Calls Tryz.prog 85 #[.agg #[.slice An n cn, .slice Ac m cc], .int .i64 node] w fun e w' => e = .returned (.bool (isnB n node)) ∧ Below w.heap.size w w' := by
  have B : Hid (Below w.heap.size w (w.alloc (.cells #[.slice An n cn, .slice Ac m cc] 25))) := (Below.refl _ _).alloc (Nat.le_refl _) _
  by_cases h1 : 0 ≤ node
  · by_cases h2 : node < n
    · have F : Hid (isnB n node = true) := decide_eq_true ⟨h1, h2⟩
      go_enter Tryz.func85, Tryz.ntmps85
      go_wp2_with fail
      go_ret
      exact ⟨by rw [F.out]; first | rfl | simp [h1, h2], B.out⟩
    · have F : Hid (isnB n node = false) := decide_eq_false (by omega)
      go_enter Tryz.func85, Tryz.ntmps85
      go_wp2_with fail
      go_ret
      exact ⟨by rw [F.out]; first | rfl | simp [h1, h2], B.out⟩
  · have F : Hid (isnB n node = false) := decide_eq_false (by omega)
    go_enter Tryz.func85, Tryz.ntmps85
    go_wp2_with fail
    go_ret
    exact ⟨by rw [F.out]; first | rfl | simp [h1], B.out⟩

set_option maxHeartbeats 1000000 in
theorem uacross_any (x : Cb) (node : Int) (w : World) :
    Calls Tryz.prog 139 #[.agg #[.int .i64 x.a, .int .i64 x.ap, .int .i64 x.b, .int .i64 x.bp, .int .i64 x.dl, .int .i64 x.cp], .int .i64 node] w fun e w' => e = .returned (.tuple #[.int .i64 (acrossV x node).1, .bool (acrossV x node).2]) ∧ Below w.heap.size w w' := by
  obtain ⟨xa, xap, xb, xbp, xd, xc⟩ := x
  simp only
  have B : Hid (Below w.heap.size w (w.alloc (.cells #[.int .i64 xa, .int .i64 xap, .int .i64 xb, .int .i64 xbp, .int .i64 xd, .int .i64 xc] 85))) := (Below.refl _ _).alloc (Nat.le_refl _) _
  cases h1 : node == xa with
  | true =>
    have F : Hid (acrossV ⟨xa, xap, xb, xbp, xd, xc⟩ node = (xb, true)) := by rw [Hid]; unfold acrossV; rw [if_pos (by simpa using h1)]
    go_enter Tryz.func139, Tryz.ntmps139
    go_wp2_with fail
    go_ret2
    exact ⟨by rw [F.out]; rfl, B.out⟩
  | false =>
    cases h2 : node == xb with
    | true =>
      have F : Hid (acrossV ⟨xa, xap, xb, xbp, xd, xc⟩ node = (xa, true)) := by rw [Hid]; unfold acrossV; rw [if_neg (by simpa using h1), if_pos (by simpa using h2)]
      go_enter Tryz.func139, Tryz.ntmps139
      go_wp2_with fail
      go_ret2
      exact ⟨by rw [F.out]; rfl, B.out⟩
    | false =>
      have F : Hid (acrossV ⟨xa, xap, xb, xbp, xd, xc⟩ node = (0, false)) := by rw [Hid]; unfold acrossV; rw [if_neg (by simpa using h1), if_neg (by simpa using h2)]
      go_enter Tryz.func139, Tryz.ntmps139
      go_wp2_with fail
      go_ret2
      exact ⟨by rw [F.out]; rfl, B.out⟩
set_option maxHeartbeats 1000000 in
theorem ucable_any (An Ac : Option Addr) (n cn m cc : Nat) (node : Int) (w : World) (hl : m ≤ 1000000) :
    Calls Tryz.prog 138 #[.agg #[.slice An n cn, .slice Ac m cc], .int .i64 node] w fun e w' => e = .returned (.bool (isnB m node)) ∧ Below w.heap.size w w' := by
  have B : Hid (Below w.heap.size w (w.alloc (.cells #[.slice An n cn, .slice Ac m cc] 25))) := (Below.refl _ _).alloc (Nat.le_refl _) _
  by_cases h1 : 0 ≤ node
  · by_cases h2 : node < m
    · have F : Hid (isnB m node = true) := decide_eq_true ⟨h1, h2⟩
      go_enter Tryz.func138, Tryz.ntmps138
      go_wp2_with fail
      go_ret
      exact ⟨by rw [F.out]; first | rfl | simp [h1, h2], B.out⟩
    · have F : Hid (isnB m node = false) := decide_eq_false (by omega)
      go_enter Tryz.func138, Tryz.ntmps138
      go_wp2_with fail
      go_ret
      exact ⟨by rw [F.out]; first | rfl | simp [h1, h2], B.out⟩
  · have F : Hid (isnB m node = false) := decide_eq_false (by omega)
    go_enter Tryz.func138, Tryz.ntmps138
    go_wp2_with fail
    go_ret
    exact ⟨by rw [F.out]; first | rfl | simp [h1], B.out⟩
end Go.Proofs.YtljojgpjgjfddaaGreat

/- The contracts of updown.Nodes and updown.Legal at walks over cables that are there. -/
namespace Go.Proofs.YtljojgpjgjfddaaGreat
open Go.RowKit Go.Maps
set_option linter.unusedVariables false
set_option linter.unusedSimpArgs false

theorem across_touch {x : Cb} {u v : Nat} (h : touchT x u v) : acrossV x (u : Int) = ((v : Int), true) := by
  unfold acrossV
  rcases h with ⟨h1, h2⟩ | ⟨h1, h2⟩
  · rw [if_pos h1.symm, h2]
  · by_cases q : (u : Int) = x.a
    · rw [if_pos q, h1, q, h2]
    · rw [if_neg q, if_pos h1.symm, h2]
theorem own_litL (w : World) (t : TypeId) (v : Value) {base : Nat} (hb : base ≤ w.heap.size) : (w.alloc (.cells #[v] t)).ownsRow base t 1 (.slice (some ⟨w.heap.size, 0, none⟩) 1 1) 1 [v] :=
  ⟨rfl, .inr ⟨w.heap.size, 1, #[v], rfl, hb, heap_alloc_new w _, Nat.le_refl _, by unfold maxLen; omega, rfl, rfl⟩⟩
theorem own_belowL {w w' : World} {base e m n : Nat} {v : Value} {xs : List Value} (h : w.ownsRow base e m v n xs) (hb : Below w.heap.size w w') : w'.ownsRow base e m v n xs := own_belowK h hb
theorem reads_newL (w : World) (t : TypeId) (v : Value) : Reads (w.alloc (.cells #[v] t)) (w.heap.size + 1) 1 (some ⟨w.heap.size, 0, none⟩) 1 [v] :=
  ⟨rfl, fun _ => ⟨_, rfl, by simp, fun q u hu => World.news_of_block (cs := #[v]) (t := t) (fr := (0, 0)) (heap_alloc_new w _) q u hu⟩⟩
def nodesI (cs : List Cb) (s : Nat) (W : List (Nat × Int)) : List Int := (nodesW cs s W).map fun (u : Nat) => (u : Int)
def UNPost (N : List Int) (w : World) (e : Ending) (w' : World) : Prop := ∃ v, e = .returned (.tuple #[v, .int .i64 0]) ∧ w'.ownsRow w.heap.size 3 1 v N.length (N.flatMap cI) ∧ Below w.heap.size w w'
def RelKb (n : Nat) (w1 : World) (i : Value) (wr : World) : Prop := ∃ k : Nat, k ≤ n ∧ i = .int .i64 k ∧ Below w1.heap.size w1 wr
def RelNd (N : List Int) (n : Nat) (w1 : World) (v at_ i : Value) (wr : World) : Prop :=
  ∃ k : Nat, k ≤ n ∧ i = .int .i64 k ∧ at_ = .int .i64 (N.getD k 0) ∧ wr.ownsRow w1.heap.size 3 1 v (N.take (k + 1)).length ((N.take (k + 1)).flatMap cI) ∧ Below w1.heap.size w1 wr
theorem infoIntL : (Tryz.prog.info? 3).map (fun i => (i.zero, i.size, i.bytes)) = some (some (.int .i64 0), 1, 8) := by kernel_rfl
set_option maxRecDepth 100000 in
set_option maxHeartbeats 4000000 in
theorem unodes_any (ns : List Nd) (cs : List Cb) (s v : Nat) (W : List (Nat × Int)) (An Ac Ap : Option Addr) (cn cc cp : Nat) (w : World) (hv : validP ⟨ns, cs⟩ = 0) (hwf : WfP ⟨ns, cs⟩) (hW : WkOk ns cs s W v) (hWl : W.length ≤ 1000) (h : IsPlan w An Ac ⟨ns, cs⟩) (h2 : IsRec 1 cI 0 w Ap W.length (W.map (·.2))) :
    Calls Tryz.prog 108 #[.agg #[.slice An ns.length cn, .slice Ac cs.length cc], .int .i64 (s : Int), .slice Ap W.length cp] w (UNPost (nodesI cs s W) w) := by
  obtain ⟨n16, c32⟩ := valid_sizes hv
  obtain ⟨w1, hw1⟩ : ∃ w1 : World, w.alloc (.cells #[.slice An ns.length cn, .slice Ac cs.length cc] 25) = w1 := ⟨_, rfl⟩
  have s0 : w1.cell? ⟨w.heap.size, 0, none⟩ = some (.slice An ns.length cn) := by rw [← hw1]; simp [go_sem]
  have s1 : w1.cell? ⟨w.heap.size, 1, none⟩ = some (.slice Ac cs.length cc) := by rw [← hw1]; simp [go_sem]
  have sz1 : w.heap.size < w1.heap.size := by rw [← hw1]; simp
  have BW0 : Hid (Below w.heap.size w w1) := by rw [Hid, ← hw1]; exact (Below.refl _ _).alloc (Nat.le_refl _) _
  have H1 := Lib.hid (h.below (Nat.le_refl _) BW0.out)
  have P1 := Lib.hid (h2.below (Nat.le_refl _) BW0.out)
  have KC : Hid (∀ w', Below w1.heap.size w1 w' → (w'.cell? ⟨w.heap.size, 0, none⟩ = some (.slice An ns.length cn) ∧ w'.cell? ⟨w.heap.size, 1, none⟩ = some (.slice Ac cs.length cc)) ∧ Below w.heap.size w w' ∧ IsPlan w' An Ac ⟨ns, cs⟩ ∧ IsRec 1 cI 0 w' Ap W.length (W.map (·.2))) :=
    fun w' hb => ⟨⟨(hb.cell (by exact sz1)).trans s0, (hb.cell (by exact sz1)).trans s1⟩, BW0.out.trans (hb.mono (by omega)), H1.out.below (Nat.le_refl _) hb, P1.out.below (Nat.le_refl _) hb⟩
  have GC := gvalid_any ⟨ns, cs⟩ An Ac cn cc w1 (by show ns.length ≤ _; omega) (by show cs.length ≤ _; omega) hwf H1.out
  rw [hv] at GC
  have VC := Lib.hid GC
  have HW := Lib.hid hW
  have NL : Hid ((nodesI cs s W).length = W.length + 1) := by rw [Hid]; unfold nodesI; rw [List.length_map, nodesW_len]
  have N0 : Hid ((nodesI cs s W).getD 0 0 = (s : Int)) := by rw [Hid]; unfold nodesI nodesW; simp
  have ND : Hid (∀ i, i < W.length → ∃ (k u u' : Nat), (W.map (·.2)).getD i 0 = k ∧ k < cs.length ∧ (nodesI cs s W).getD i 0 = u ∧ (nodesI cs s W).getD (i + 1) 0 = u' ∧ touchT (cs.getD k cb0) u u') := fun i hi => by
    obtain ⟨e1, e2⟩ := nodesW_at cs W s v i hW.1 hi
    have hm : W.getD i (0, 0) ∈ W := by simp [List.getD, hi]
    obtain ⟨k, hk, hkl, ht, _⟩ := hW.2.2 _ hm
    have l1 : i < (nodesW cs s W).length := by rw [nodesW_len]; omega
    have l2 : i + 1 < (nodesW cs s W).length := by rw [nodesW_len]; omega
    refine ⟨k, (W.getD i (0, 0)).1, othN cs (W.getD i (0, 0)).1 k, by rw [← hk]; simp [List.getD, hi], hkl, ?_, ?_, ht⟩
    · rw [← e1]; unfold nodesI; simp [List.getD, l1]
    · rw [show othN cs (W.getD i (0, 0)).1 k = othN cs (W.getD i (0, 0)).1 (W.getD i (0, 0)).2.toNat by rw [hk, Int.toNat_natCast], ← e2]; unfold nodesI; simp [List.getD, l2]
  have hsn := hW.2.1
  generalize nodesI cs s W = N at *
  have HW1 := Lib.hid hw1
  obtain ⟨i0, hi0, hz0, hz1, hz2⟩ := info_parts infoIntL
  clear h h2 hw1 hwf hW GC hv
  go_enter Tryz.func108, Tryz.ntmps108
  go_wp2_with fail
  rw [HW1.out]
  refine VC.out.mono ?_
  rintro e w2 ⟨rfl, bel⟩
  have B2 : Hid (Below w1.heap.size w1 w2) := bel
  obtain ⟨⟨c0, c1⟩, _⟩ := KC.out w2 bel
  have UC := unode_any An Ac ns.length cn cs.length cc (s : Int) w2 (by omega)
  rw [show isnB ns.length (s : Int) = true from decide_eq_true ⟨by omega, by omega⟩] at UC
  have UCH := Lib.hid UC
  clear bel UC VC s0 s1
  go_wp2_with fail
  refine UCH.out.mono ?_
  rintro e w3 ⟨rfl, bel3⟩
  have B3 : Hid (Below w1.heap.size w1 w3) := B2.out.trans (bel3.mono B2.out.size)
  clear bel3 UCH c0 c1
  go_wp2_with fail
  go_loopw [25] (fun i wr => RelKb W.length w1 i wr) (fun i _ => W.length - (RowKit.intOf i).toNat)
  case atStart => exact ⟨0, Nat.zero_le _, rfl, B3.out⟩
  case round =>
    obtain ⟨k, hk, rfl, belr⟩ := hrel
    have BR := Lib.hid belr
    clear belr
    by_cases hkr : k < W.length
    · obtain ⟨b1, o1, ha1, hb1, hm1, e1⟩ := int_at (KC.out wr BR.out).2.2.2 k hkr
      obtain ⟨q, u, u', hq, hql, _⟩ := ND.out k hkr
      rw [hq] at e1
      obtain ⟨⟨c0, c1⟩, _⟩ := KC.out wr BR.out
      have CC := ucable_any An Ac ns.length cn cs.length cc (q : Int) wr (by omega)
      rw [show isnB cs.length (q : Int) = true from decide_eq_true ⟨by omega, by omega⟩] at CC
      have CCH := Lib.hid CC
      subst ha1
      have ki : (k : Int) < (W.length : Int) := by omega
      clear CC hm1 hq
      go_wp2_with fail
      refine CCH.out.mono ?_
      rintro e w4 ⟨rfl, bel4⟩
      have R : Hid (RelKb W.length w1 (.int .i64 ((k + 1 : Nat) : Int)) w4) := ⟨k + 1, by omega, rfl, BR.out.trans (bel4.mono BR.out.size)⟩
      clear bel4 CCH c0 c1 e1
      go_wp2_with fail
      exact ⟨by simpa using R.out, by simp [RowKit.intOf]; omega⟩
    · obtain rfl : k = W.length := by omega
      have hzr := BR.out.size
      have ST : Hid (RelNd N W.length w1 (.slice (some ⟨wr.heap.size, 0, none⟩) 1 1) (.int .i64 (s : Int)) (.int .i64 0) (wr.alloc (.cells #[.int .i64 (s : Int)] 3))) := by
        refine ⟨0, Nat.zero_le _, rfl, by rw [N0.out], ?_, BR.out.alloc BR.out.size _⟩
        have e : N.take (0 + 1) = [(s : Int)] := by
          have := NL.out
          have h0 := N0.out
          cases N with
          | nil => simp at this
          | cons a l => simp at h0; simp [h0]
        rw [e]
        exact own_litL wr 3 _ hzr
      go_wp2_with fail
      go_loopw [10, 11, 39] (fun v a i wr => RelNd N W.length w1 v a i wr) (fun _ _ i _ => W.length - (RowKit.intOf i).toNat)
      case atStart => exact ST.out
      case round =>
        clear ST
        obtain ⟨j, hj, rfl, rfl, own, belr⟩ := hrel
        have BQ := Lib.hid belr
        have OW := Lib.hid own
        clear belr own
        by_cases hjr : j < W.length
        · obtain ⟨b1, o1, ha1, hb1, hm1, e1⟩ := int_at (KC.out wr BQ.out).2.2.2 j hjr
          obtain ⟨q, u, u', hq, hql, hu, hu', ht⟩ := ND.out j hjr
          rw [hq] at e1
          obtain ⟨⟨c0, c1⟩, _, pl, _⟩ := KC.out wr BQ.out
          obtain ⟨bc, oc, hac, hbc, hmc, f0, f1, f2, f3, f4, f5⟩ := cable_at pl.2 q hql
          have AC := uacross_any (cs.getD q cb0) (u : Int) wr
          rw [across_touch ht] at AC
          have ACH := Lib.hid AC
          have TS : Hid (N.take (j + 1 + 1) = N.take (j + 1) ++ [(u' : Int)]) := by rw [Hid, take_snocG 0 N (j + 1) (by have := NL.out; omega), hu']
          have HU' := Lib.hid hu'
          rw [hu]
          have hln : (N.take (j + 1)).length ≤ 2000 := by rw [List.length_take]; omega
          generalize N.take (j + 1) = T at *
          generalize cs.getD q cb0 = x at *
          obtain ⟨xa, xap, xb, xbp, xd, xc⟩ := x
          simp only at f0 f1 f2 f3 f4 f5
          have HA1 := Lib.hid ha1
          subst ha1
          subst hac
          have ji : (j : Int) < (W.length : Int) := by omega
          have qi : (q : Int) < (cs.length : Int) := by omega
          clear AC hm1 hmc hq pl hu hu' ht
          go_wp2_with fail
          refine ACH.out.mono ?_
          rintro e w4 ⟨rfl, bel4⟩
          have OW4 := Lib.hid (own_belowL OW.out bel4)
          have B4 : Hid (Below w1.heap.size w1 w4) := BQ.out.trans (bel4.mono BQ.out.size)
          have RD : Hid (Reads (w4.alloc (.cells #[.int .i64 (u' : Int)] 3)) (w4.heap.size + 1) 1 (some ⟨w4.heap.size, 0, none⟩) 1 [.int .i64 (u' : Int)]) := reads_newL w4 _ _
          have OA : Hid ((w4.alloc (.cells #[.int .i64 (u' : Int)] 3)).ownsRow w1.heap.size 3 1 u10 T.length (T.flatMap cI)) := OW4.out.alloc _
          have BA : Hid (Below w1.heap.size w1 (w4.alloc (.cells #[.int .i64 (u' : Int)] 3))) := B4.out.alloc B4.out.size _
          have hz4 := B4.out.size
          clear bel4 ACH c0 c1 e1 f0 f1 f2 f3 f4 f5
          go_wp2_with (at_builtin; refine wpList_append_any _ rfl (.tmp 56) (.tmp 58) 28 rfl w1.heap.size 3 i0 _ 1 8 Tryz.underlying28 hi0 hz0 hz1 hz2 rfl (by decide) _ T.length _ rfl OA.out (w4.heap.size + 1) (some ⟨w4.heap.size, 0, none⟩) 1 1 [.int .i64 (u' : Int)] rfl RD.out ?m1n ?m2n ?m3n ?m4n ?_)
          case m1n => intro z hz; simp at hz; rw [hz]; rfl
          case m2n => unfold maxLen; omega
          case m3n => omega
          case m4n => simp; omega
          intro v2 w5 own2 gr2 _
          have R : Hid (RelNd N W.length w1 v2 (.int .i64 (u' : Int)) (.int .i64 ((j + 1 : Nat) : Int)) w5) := by
            refine ⟨j + 1, by omega, rfl, by rw [HU'.out], ?_, BA.out.grown gr2 (by simp; omega) (fun g e => by have := (OA.out.lt g e).1; omega)⟩
            rw [TS.out, List.length_append, List.flatMap_append]
            simpa [cI] using own2
          clear own2 gr2 RD OA
          go_wp2_with fail
          exact ⟨by simpa using R.out, by simp [RowKit.intOf]; omega⟩
        · obtain rfl : j = W.length := by omega
          have eN : N.take (W.length + 1) = N := List.take_of_length_le (by have := NL.out; omega)
          rw [eN] at OW
          have F : Hid (UNPost N w (.returned (.tuple #[u10, .int .i64 0])) wr) := ⟨u10, rfl, own_mono OW.out (by omega), (KC.out wr BQ.out).2.1⟩
          clear OW eN
          go_wp2_with fail
          go_ret2
          exact F.out
end Go.Proofs.YtljojgpjgjfddaaGreat

/- The contract of updown.Legal at walks over cables that are there. -/
namespace Go.Proofs.YtljojgpjgjfddaaGreat
open Go.RowKit Go.Maps
set_option linter.unusedVariables false
set_option linter.unusedSimpArgs false

def RelLv (lv : List Int) (N : List Nat) (w4 : World) (i : Value) (wr : World) : Prop := ∃ k : Nat, k ≤ N.length ∧ i = .int .i64 k ∧ (N.take k).all (lvOk lv) = true ∧ w4 = wr
def RelLg (lv : List Int) (N : List Nat) (P : List Int) (bs : Nat) (w4 : World) (i : Value) (wr : World) : Prop :=
  ∃ k : Nat, k ≤ P.length ∧ i = .int .i64 k ∧ Blk wr bs 144 #[.int .i64 (N.getD k 0 : Nat), .bool (fallI lv N k)] ∧ (List.range k).all (stepOk lv N P) = true ∧ Below w4.heap.size w4 wr
def RgS (o : Nat) (f p : Bool) (w0 : World) (s16 s17 : Value) (wx : World) : Prop := ∃ bn, s16 = .pointer (some ⟨bn, 0, none⟩) ∧ s17 = .bool p ∧ Blk wx bn 144 #[.int .i64 (o : Int), .bool f] ∧ Below w0.heap.size w0 wx
theorem rgs_mk {o : Nat} {f p : Bool} {w0 wx : World} {bn : Nat} (hX : Blk wx bn 144 #[.int .i64 (o : Int), .bool f]) (hB : Below w0.heap.size w0 wx) : RgS o f p w0 (.pointer (some ⟨bn, 0, none⟩)) (.bool p) wx := ⟨bn, rfl, rfl, hX, hB⟩
theorem fill2 {w : World} {g : Nat} {t : TypeId} {a0 a1 : Value} (h : Blk w g t #[a0, a1]) (v0 v1 : Value) : Blk ((w.setCell ⟨g, 0, none⟩ v0).setCell ⟨g, 1, none⟩ v1) g t #[v0, v1] := (h.set_ 0 v0).set_ 1 v1
theorem leg_lv {lv : List Int} {N : List Nat} {P : List Int} {k : Nat} (hk : k < N.length) (h : lvOk lv (N.getD k 0) = false) : legB lv N P = false := by
  unfold legB
  have : N.all (lvOk lv) = false := by rw [List.all_eq_false]; exact ⟨N.getD k 0, by simp [List.getD, hk], by rw [h]; simp⟩
  rw [this]; rfl
theorem leg_step {lv : List Int} {N : List Nat} {P : List Int} {k : Nat} (hk : k < P.length) (h : stepOk lv N P k = false) : legB lv N P = false := by
  unfold legB
  rw [range_all_bad hk h, Bool.and_false]
set_option maxRecDepth 100000 in
set_option maxHeartbeats 4000000 in
theorem ulegal_any (ns : List Nd) (cs : List Cb) (lv : List Int) (s v : Nat) (W : List (Nat × Int)) (An Ac Al Ap : Option Addr) (cn cc cl cp : Nat) (w : World) (ho : orderB ⟨ns, cs⟩ lv = true) (hwf : WfP ⟨ns, cs⟩) (hlv : lv.length ≤ 1000000) (hwl : WfI lv) (hW : WkOk ns cs s W v) (hWl : W.length ≤ 1000)
    (h : IsPlan w An Ac ⟨ns, cs⟩) (h2 : IsRec 1 cI 0 w Al lv.length lv) (h3 : IsRec 1 cI 0 w Ap W.length (W.map (·.2))) :
    Calls Tryz.prog 65 #[.agg #[.slice An ns.length cn, .slice Ac cs.length cc], .agg #[.slice Al lv.length cl], .int .i64 (s : Int), .slice Ap W.length cp] w fun e w' => e = .returned (.bool (legB lv (nodesW cs s W) (W.map (·.2)))) ∧ Below w.heap.size w w' := by
  have hv := (orderB_spec ho).1
  have hll := (orderB_spec ho).2.1
  simp only at hv hll
  obtain ⟨n16, c32⟩ := valid_sizes hv
  obtain ⟨w1, hw1⟩ : ∃ w1 : World, (w.alloc (.cells #[.slice An ns.length cn, .slice Ac cs.length cc] 25)).alloc (.cells #[.slice Al lv.length cl] 30) = w1 := ⟨_, rfl⟩
  have s0 : w1.cell? ⟨w.heap.size, 0, none⟩ = some (.slice An ns.length cn) := by rw [← hw1]; simp [go_sem]
  have s1 : w1.cell? ⟨w.heap.size, 1, none⟩ = some (.slice Ac cs.length cc) := by rw [← hw1]; simp [go_sem]
  have s2 : w1.cell? ⟨w.heap.size + 1, 0, none⟩ = some (.slice Al lv.length cl) := by rw [← hw1]; simp [go_sem]
  have sz1 : w.heap.size + 1 < w1.heap.size := by rw [← hw1]; simp
  have BW0 : Hid (Below w.heap.size w w1) := by rw [Hid, ← hw1]; exact ((Below.refl _ _).alloc (Nat.le_refl _) _).alloc (by simp) _
  have H1 := Lib.hid (h.below (Nat.le_refl _) BW0.out)
  have L1 := Lib.hid (h2.below (Nat.le_refl _) BW0.out)
  have P1 := Lib.hid (h3.below (Nat.le_refl _) BW0.out)
  have KC : Hid (∀ w', Below w1.heap.size w1 w' → (w'.cell? ⟨w.heap.size, 0, none⟩ = some (.slice An ns.length cn) ∧ w'.cell? ⟨w.heap.size, 1, none⟩ = some (.slice Ac cs.length cc) ∧ w'.cell? ⟨w.heap.size + 1, 0, none⟩ = some (.slice Al lv.length cl)) ∧ Below w.heap.size w w' ∧ IsPlan w' An Ac ⟨ns, cs⟩ ∧ IsRec 1 cI 0 w' Al lv.length lv ∧ IsRec 1 cI 0 w' Ap W.length (W.map (·.2))) :=
    fun w' hb => ⟨⟨(hb.cell (by show w.heap.size < _; omega)).trans s0, (hb.cell (by show w.heap.size < _; omega)).trans s1, (hb.cell (by exact sz1)).trans s2⟩, BW0.out.trans (hb.mono (by omega)), H1.out.below (Nat.le_refl _) hb, L1.out.below (Nat.le_refl _) hb, P1.out.below (Nat.le_refl _) hb⟩
  have OC := order_any ⟨ns, cs⟩ lv An Ac Al cn cc cl w1 (by show ns.length ≤ _; omega) (by show cs.length ≤ _; omega) hwf hlv hwl H1.out L1.out
  rw [ho] at OC
  have OCH := Lib.hid OC
  have UC := Lib.hid (fun (w' : World) (hb : Below w1.heap.size w1 w') => unodes_any ns cs s v W An Ac Ap cn cc cp w' hv hwf hW hWl (KC.out w' hb).2.2.1 (KC.out w' hb).2.2.2.2)
  have NLn : Hid ((nodesW cs s W).length = W.length + 1) := nodesW_len cs s W
  have NI : Hid (nodesI cs s W = (nodesW cs s W).map fun (u : Nat) => (u : Int)) := rfl
  have NB : Hid (∀ k, k < W.length + 1 → (nodesW cs s W).getD k 0 < ns.length) := fun k hk => by
    cases k with
    | zero => exact hW.2.1
    | succ k =>
      obtain ⟨_, e2⟩ := nodesW_at cs W s v k hW.1 (by omega)
      obtain ⟨q, hq, _, _, _, hn⟩ := hW.2.2 (W.getD k (0, 0)) (by simp [List.getD, show k < W.length by omega])
      rw [e2, hq, Int.toNat_natCast]; exact hn
  have NG : Hid (∀ k, k < W.length + 1 → (nodesI cs s W).getD k 0 = ((nodesW cs s W).getD k 0 : Nat)) := fun k hk => by
    have l1 : k < (nodesW cs s W).length := by rw [nodesW_len]; omega
    unfold nodesI; simp [List.getD, l1]
  have N0 : Hid ((nodesW cs s W).getD 0 0 = s) := rfl
  have PL : Hid ((W.map (·.2)).length = W.length) := List.length_map ..
  have NIL : Hid ((nodesI cs s W).length = W.length + 1) := by rw [Hid]; unfold nodesI; rw [List.length_map, nodesW_len]
  have FN0 : Hid (fallI lv (nodesW cs s W) 0 = false) := rfl
  generalize nodesI cs s W = NI' at *
  generalize nodesW cs s W = N at *
  have HLL := Lib.hid hll
  have HW1 := Lib.hid hw1
  clear h h2 h3 hw1 hwf hwl hW OC hv ho hll
  go_enter Tryz.func65, Tryz.ntmps65
  go_wp2_with fail
  rw [HW1.out]
  refine (show Calls _ _ _ _ _ from OCH.out).mono ?_
  rintro e w2 ⟨rfl, bel⟩
  obtain ⟨⟨c0, c1, c2⟩, _⟩ := KC.out w2 bel
  have UC2 := Lib.hid (UC.out w2 bel)
  have B2 := Lib.hid bel
  clear bel OCH s0 s1 s2 UC
  go_wp2_with fail
  refine UC2.out.mono ?_
  rintro e w4 ⟨vn, rfl, own, bel4⟩
  obtain ⟨aN, cN, hvn, _, recN, _⟩ := rec_of_own (d := (0 : Int)) cI_length (by decide) own
  subst hvn
  have RN := Lib.hid recN
  have B4 : Hid (Below w1.heap.size w1 w4) := B2.out.trans (bel4.mono B2.out.size)
  have BW4 := Lib.hid (KC.out w4 B4.out).2.1
  rw [NIL.out] at RN ⊢
  clear own recN bel4 UC2 c0 c1 c2
  go_wp2_with fail
  go_loopw [33] (fun i wr => RelLv lv N w4 i wr) (fun i _ => N.length - (RowKit.intOf i).toNat)
  case atStart => exact ⟨0, Nat.zero_le _, rfl, by simp, rfl⟩
  case round =>
    obtain ⟨k, hk, rfl, hall, rfl⟩ := hrel
    have HA := Lib.hid hall
    clear hall
    have nln := NLn.out
    by_cases hkr : k < N.length
    · obtain ⟨b1, o1, ha1, hb1, hm1, e1⟩ := int_at RN.out k (by omega)
      rw [NG.out k (by omega)] at e1
      have hun := NB.out k (by omega)
      have LB := Lib.hid (fun (h : lvOk lv (N.getD k 0) = false) => leg_lv (P := W.map (·.2)) hkr h)
      have TS : Hid (N.take (k + 1) = N.take k ++ [N.getD k 0]) := take_snocG 0 N k hkr
      generalize N.getD k 0 = u at *
      obtain ⟨b2, o2, ha2, hb2, _, e2⟩ := int_at (KC.out w4 B4.out).2.2.2.1 u (by have := HLL.out; omega)
      obtain ⟨⟨_, _, c2⟩, _⟩ := KC.out w4 B4.out
      have LD : Hid (lvOk lv u = decide (0 ≤ lv.getD u 0)) := rfl
      generalize lv.getD u 0 = y at *
      have ki : (k : Int) < (W.length : Int) + 1 := by omega
      have ui : (u : Int) < (lv.length : Int) := by have := HLL.out; omega
      subst ha1
      subst ha2
      clear hm1 nln
      by_cases hy : y < 0
      · have F := Lib.hid (LB.out (by rw [LD.out]; simp; omega))
        clear LB LD
        go_wp2_with fail
        go_ret
        exact ⟨by rw [F.out]; rfl, BW4.out⟩
      · have R : Hid (RelLv lv N w4 (.int .i64 ((k + 1 : Nat) : Int)) w4) := ⟨k + 1, by omega, rfl, by rw [TS.out, List.all_append, HA.out]; simp [LD.out]; omega, rfl⟩
        clear LB LD TS
        go_wp2_with fail
        exact ⟨by simpa using R.out, by simp [RowKit.intOf]; omega⟩
    · obtain rfl : k = N.length := by omega
      rw [List.take_length] at HA
      have ki : ¬ (N.length : Int) < (W.length : Int) + 1 := by omega
      have ST : Hid (RelLg lv N (W.map (·.2)) w4.heap.size w4 (.int .i64 0) (w4.alloc (.cells #[.int .i64 (s : Int), .bool false] 144))) :=
        ⟨0, Nat.zero_le _, rfl, by rw [N0.out, FN0.out]; exact Blk.new _ _ _, rfl, (Below.refl _ _).alloc (Nat.le_refl _) _⟩
      clear nln
      go_wp2_with fail
      go_loopw [48] (fun i wr => RelLg lv N (W.map (·.2)) w4.heap.size w4 i wr) (fun i _ => W.length - (RowKit.intOf i).toNat)
      case atStart => exact ST.out
      case round =>
        clear ST
        obtain ⟨j, hj, rfl, hbs, hall, belr⟩ := hrel
        rw [PL.out] at hj
        have BQ : Hid (Below w1.heap.size w1 wr) := B4.out.trans (belr.mono B4.out.size)
        have BE := Lib.hid belr
        have BS0 := Lib.hid hbs
        have HST := Lib.hid hall
        have bzl : w4.heap.size < wr.heap.size := hbs.lt
        clear belr hall
        by_cases hjr : j < W.length
        · obtain ⟨b1, o1, ha1, hb1, hm1, e1⟩ := int_at (KC.out wr BQ.out).2.2.2.2 j hjr
          obtain ⟨bN, oN, haN, hbN, _, eN⟩ := int_at (RN.out.below (Nat.le_refl _) BE.out) (j + 1) (by omega)
          rw [NG.out (j + 1) (by omega)] at eN
          have PRV : Hid (∀ w', Below w1.heap.size w1 w' → 0 < j → w'.cell? ⟨b1, o1 + (j - 1), none⟩ = some (.int .i64 ((W.map (·.2)).getD (j - 1) 0))) := fun w' hb h0 => by
            obtain ⟨b9, o9, ha9, _, _, f0⟩ := int_at (KC.out w' hb).2.2.2.2 (j - 1) (by omega)
            rw [ha1] at ha9
            injection ha9 with ha9
            injection ha9 with ga gb
            subst ga
            subst gb
            exact f0
          have BAD : Hid (stepOk lv N (W.map (·.2)) j = false → legB lv N (W.map (·.2)) = false) := fun h => leg_step (by rw [PL.out]; exact hjr) h
          have SD : Hid (stepOk lv N (W.map (·.2)) j = (perS lv (N.getD j 0, fallI lv N j) (N.getD (j + 1) 0) && !(decide (0 < j) && (W.map (·.2)).getD j 0 == (W.map (·.2)).getD (j - 1) 0))) := rfl
          have FS : Hid (fallI lv N (j + 1) = !upB lv (N.getD j 0) (N.getD (j + 1) 0)) := by rw [Hid]; unfold fallI; rw [if_neg (by omega)]; rfl
          have SC := Lib.hid (fun (w' : World) (hb : Below w1.heap.size w1 w') => step_any lv Al cl (N.getD j 0, fallI lv N j) (N.getD (j + 1) 0) w' hlv (KC.out w' hb).2.2.2.1)
          have NXT : Hid (∀ wq, Blk wq w4.heap.size 144 #[.int .i64 (N.getD (j + 1) 0 : Nat), .bool (fallI lv N (j + 1))] → stepOk lv N (W.map (·.2)) j = true → Below w4.heap.size w4 wq → RelLg lv N (W.map (·.2)) w4.heap.size w4 (.int .i64 ((j + 1 : Nat) : Int)) wq) := fun wq hb hs hbe =>
            ⟨j + 1, by rw [PL.out]; omega, rfl, hb, by rw [range_all_succ, HST.out, hs]; rfl, hbe⟩
          obtain ⟨⟨_, _, c2⟩, _⟩ := KC.out wr BQ.out
          have t0 : wr.cell? ⟨w4.heap.size, 0, none⟩ = some (.int .i64 (N.getD j 0 : Nat)) := hbs.cell 0
          have t1 : wr.cell? ⟨w4.heap.size, 1, none⟩ = some (.bool (fallI lv N j)) := hbs.cell 1
          generalize stepOk lv N (W.map (·.2)) j = sj at *
          generalize (W.map (·.2)).getD j 0 = pj at *
          generalize (W.map (·.2)).getD (j - 1) 0 = pp at *
          generalize perS lv (N.getD j 0, fallI lv N j) (N.getD (j + 1) 0) = pr at *
          generalize upB lv (N.getD j 0) (N.getD (j + 1) 0) = up at *
          generalize fallI lv N (j + 1) = fl2 at *
          generalize fallI lv N j = fl at *
          generalize N.getD (j + 1) 0 = u2 at *
          generalize N.getD j 0 = u at *
          have HA1 := Lib.hid ha1
          subst ha1
          subst haN
          have KP : Hid (∀ w', Below wr.heap.size wr w' → w'.cell? ⟨w.heap.size + 1, 0, none⟩ = some (.slice Al lv.length cl) ∧ w'.cell? ⟨w4.heap.size, 0, none⟩ = some (.int .i64 (u : Int)) ∧ w'.cell? ⟨w4.heap.size, 1, none⟩ = some (.bool fl) ∧ w'.cell? ⟨bN, oN + (j + 1), none⟩ = some (.int .i64 (u2 : Int))) := fun w' hb =>
            ⟨(KC.out w' (BQ.out.trans (hb.mono BQ.out.size))).1.2.2, (hb.cell (by exact bzl)).trans t0, (hb.cell (by exact bzl)).trans t1, (hb.cell (by exact hbN)).trans eN⟩
          have SCW : Hid (∀ w', Below wr.heap.size wr w' → Calls Tryz.prog 109 #[.agg #[.slice Al lv.length cl], .agg #[.int .i64 (u : Int), .bool fl], .int .i64 (u2 : Int)] w' (fun e w'' => (e = .returned (.tuple #[.agg #[.int .i64 (u2 : Int), .bool (!up)], .bool pr]) ∧ Below w'.heap.size w' w'') ∧ Below wr.heap.size wr w'' ∧
              ∀ j, (wr.heap.size < w'.heap.size → w''.cell? ⟨wr.heap.size, j, none⟩ = w'.cell? ⟨wr.heap.size, j, none⟩ ∧ w''.frozen? ⟨wr.heap.size, j, none⟩ = w'.frozen? ⟨wr.heap.size, j, none⟩ ∧ wr.heap.size < w''.heap.size ∧ ¬ wr.heap.size = w''.heap.size))) := fun w' hb => by
            refine (SC.out w' (BQ.out.trans (hb.mono BQ.out.size))).mono fun e w'' h => ⟨h, ?_⟩
            have hz2 := h.2.size
            exact ⟨hb.trans (h.2.mono hb.size), fun j hl => ⟨h.2.cell hl, h.2.frozen hl, by omega, by omega⟩⟩
          have ji : (j : Int) < (W.length : Int) := by omega
          have q1 : IntKind.i64.wrap ((j : Int) + 1) = (j : Int) + 1 := IntWalk.i64_in _ (by omega)
          have q2 : (0 : Int) ≤ (j : Int) + 1 := by omega
          have q3 : (j : Int) + 1 < (W.length : Int) + 1 := by omega
          have q4 : ((j : Int) + 1).toNat = j + 1 := by omega
          clear hm1 SC hbs
          go_wp2_with fail
          clear e1
          go_cut [16, 17] from 53 to 63 (fun s16 s17 wx => RgS u2 (!up) pr wr s16 s17 wx)
          case first =>
            clear KC BAD SD FS NXT PRV B4 B2 BQ BE BS0 HST HA NB NG NI PL NLn NIL N0 FN0 RN H1 L1 P1 BW4 BW0
            go_region_held3 (fun w' => w'.cell? ⟨w.heap.size + 1, 0, none⟩ = some (.slice Al lv.length cl) ∧ w'.cell? ⟨w4.heap.size, 0, none⟩ = some (.int .i64 (u : Int)) ∧ w'.cell? ⟨w4.heap.size, 1, none⟩ = some (.bool fl) ∧ w'.cell? ⟨bN, oN + (j + 1), none⟩ = some (.int .i64 (u2 : Int)))
              (first | exact ⟨c2, t0, t1, eN⟩ | (refine KP.out _ ?_; repeat (first | exact Below.refl _ _ | exact BS.out | refine below_drewS ?_ | refine below_allocS ?_ _ | refine below_setS ?_ (by first | exact Nat.le_refl _ | (dsimp only; omega) | (dsimp only; have := BS.out.size; omega)))))
              (first
                | (go_at_call 109
                   refine (SCW.out _ (by repeat (first | exact Below.refl _ _ | refine below_drewS ?_ | refine below_allocS ?_ _))).mono ?_
                   rintro e ws ⟨⟨rfl, bels⟩, bs1, pos⟩
                   have BS := Lib.hid bs1
                   have BLS := Lib.hid bels
                   have xc0 := pos 0
                   have xc1 := pos 1
                   try simp [go_sem] at xc0
                   try simp [go_sem] at xc1
                   clear bels bs1 pos))
            all_goals
              go_wp2_with fail
              go_meet
              case rel =>
                have z0 := BLS.out.size
                simp at z0
                apply rgs_mk
                case hX =>
                  first
                    | with_reducible exact blkA0 ws _ _
                    | with_reducible exact fill2 (a0 := .int .i64 0) (a1 := .bool false) (keepD (by with_reducible exact blkA0 _ _ _) BLS.out) _ _
                case hB =>
                  repeat (first | with_reducible exact BS.out | refine below_allocS ?_ _ | refine below_setS ?_ (by dsimp only; omega))
          case rest =>
            obtain ⟨bn, rfl, rfl, hbn, belc⟩ := hcut
            have BC : Hid (Below w1.heap.size w1 wc) := BQ.out.trans (belc.mono BQ.out.size)
            have BEc : Hid (Below w4.heap.size w4 wc) := BE.out.trans (belc.mono BE.out.size)
            have BSc : Hid (Blk wc w4.heap.size 144 #[.int .i64 (u : Int), .bool fl]) := BS0.out.below belc bzl
            have BWc := Lib.hid (KC.out wc BC.out).2.1
            have e0 : wc.cell? ⟨bn, 0, none⟩ = some (.int .i64 (u2 : Int)) := hbn.cell 0
            have e1 : wc.cell? ⟨bn, 1, none⟩ = some (.bool (!up)) := hbn.cell 1
            have y0 : wc.cell? ⟨w4.heap.size, 0, none⟩ = some (.int .i64 (u : Int)) := BSc.out.cell 0
            have y1 : wc.cell? ⟨w4.heap.size, 1, none⟩ = some (.bool fl) := BSc.out.cell 1
            have g0 := BSc.out.frozen 0
            have g1 := BSc.out.frozen 1
            have PRc := Lib.hid (PRV.out wc BC.out)
            have NX2 : Hid (sj = true → RelLg lv N (W.map (·.2)) w4.heap.size w4 (.int .i64 ((j + 1 : Nat) : Int)) ((wc.setCell ⟨w4.heap.size, 0, none⟩ (.int .i64 (u2 : Int))).setCell ⟨w4.heap.size, 1, none⟩ (.bool (!up)))) := fun hs =>
              NXT.out _ (by rw [FS.out]; exact fill2 BSc.out _ _) hs ((BEc.out.setCell (Nat.le_refl _) _).setCell (Nat.le_refl _) _)
            clear t0 t1 c2 eN q1 q2 q3 q4 hbn belc NXT KP SCW PRV
            have SDO := SD.out
            clear SD
            cases pr with
            | false =>
              have F := Lib.hid (BAD.out (by rw [SDO]; rfl))
              clear SDO NX2 BAD
              go_wp2_with fail
              go_ret
              exact ⟨by rw [F.out]; rfl, BWc.out⟩
            | true =>
              by_cases hj0 : 0 < j
              · have p0 := PRc.out hj0
                have k1 : decide ((0 : Int) < (j : Int)) = true := by simp; omega
                have k2 : IntKind.i64.wrap ((j : Int) - 1) = (j : Int) - 1 := IntWalk.i64_in _ (by omega)
                have k3 : (0 : Int) ≤ (j : Int) - 1 := by omega
                have k4 : (j : Int) - 1 < (W.length : Int) := by omega
                have k5 : ((j : Int) - 1).toNat = j - 1 := by omega
                rw [decide_eq_true hj0] at SDO
                cases hpp : pj == pp with
                | true =>
                  have F := Lib.hid (BAD.out (by rw [SDO, hpp]; rfl))
                  clear SDO NX2 BAD PRc
                  go_wp2_with fail
                  go_ret
                  exact ⟨by rw [F.out]; rfl, BWc.out⟩
                | false =>
                  have R := Lib.hid (NX2.out (by rw [SDO, hpp]; rfl))
                  clear SDO NX2 BAD PRc
                  go_wp2_with fail
                  exact ⟨by simpa using R.out, by simp [RowKit.intOf]; omega⟩
              · have k1 : decide ((0 : Int) < (j : Int)) = false := by simp; omega
                rw [decide_eq_false hj0] at SDO
                have R := Lib.hid (NX2.out (by rw [SDO]; rfl))
                clear SDO NX2 BAD PRc
                go_wp2_with fail
                exact ⟨by simpa using R.out, by simp [RowKit.intOf]; omega⟩
        · obtain rfl : j = W.length := by omega
          have F : Hid (legB lv N (W.map (·.2)) = true) := by
            rw [Hid]; unfold legB; rw [HA.out, PL.out, HST.out]; rfl
          have BF := Lib.hid (KC.out wr BQ.out).2.1
          clear hbs
          go_wp2_with fail
          go_ret
          exact ⟨by rw [F.out]; rfl, BF.out⟩
end Go.Proofs.YtljojgpjgjfddaaGreat

/- The contract of tree.Legal. -/
namespace Go.Proofs.YtljojgpjgjfddaaGreat
open Go.RowKit Go.Maps
set_option linter.unusedVariables false
set_option linter.unusedSimpArgs false

section
variable {ns : List Nd} {cs : List Cb} {x : Tr} {s : Nat} {r : Nat → Nat} {n : Nat} {out : List (List Int)}
def inRows (out : List (List Int)) (W : List (Nat × Int)) : Prop := ∀ p ∈ W, p.2 ∈ out.getD p.1 []
theorem walk_inc (I : InTree n cs out r) : ∀ (W : List (Nat × Int)) (u v : Nat), chn cs u W v → inRows out W →
    (∀ y ∈ W.map (fun p => othN cs p.1 p.2.toNat), r u < r y ∧ y < n) ∧ (W.map fun p => othN cs p.1 p.2.toNat).Nodup := by
  intro W
  induction W with
  | nil => intro u v _ _; exact ⟨fun y hy => (by cases hy), List.nodup_nil⟩
  | cons p W ih =>
    intro u v hc hr
    obtain ⟨h1, h2⟩ := hc
    obtain ⟨g1, g2⟩ := ih _ v h2 (fun q hq => hr q (List.mem_cons_of_mem _ hq))
    have e := I.go p.1 p.2 (hr p (List.mem_cons_self ..))
    rw [List.map_cons]
    refine ⟨fun y hy => ?_, List.nodup_cons.2 ⟨fun hm => ?_, g2⟩⟩
    · rcases List.mem_cons.1 hy with rfl | hy
      · rw [h1]; exact ⟨e.2.2.2, e.2.1⟩
      · have := g1 y hy
        rw [h1]; exact ⟨by omega, this.2⟩
    · have := (g1 _ hm).1
      omega
theorem walk_len (I : InTree n cs out r) {W : List (Nat × Int)} {u v : Nat} (hc : chn cs u W v) (hr : inRows out W) : W.length ≤ n := by
  obtain ⟨h1, h2⟩ := walk_inc I W u v hc hr
  have h3 := List.Nodup.length_le_of_subset h2 (fun y hy => List.mem_range.2 (h1 y hy).2)
  rw [List.length_map, List.length_range] at h3
  exact h3
theorem VT.walk_uniq (V : VT ns cs x s r) : ∀ (k : Nat) (W W' : List (Nat × Int)) (v : Nat), W.length = k → chn cs s W v → inRows x.out W → chn cs s W' v → inRows x.out W' → W = W' := by
  have last : ∀ (L : List (Nat × Int)) (p : Nat × Int) (v : Nat), chn cs s (L ++ [p]) v → chn cs s L p.1 ∧ othN cs p.1 p.2.toNat = v := fun L p v h => by
    obtain ⟨y, h1, h2, h3⟩ := chn_split L [p] h
    rw [h2] at h1
    exact ⟨h1, h3⟩
  intro k
  induction k with
  | zero =>
    intro W W' v hl hc hr hc' hr'
    obtain rfl := List.eq_nil_of_length_eq_zero hl
    obtain rfl : s = v := hc
    rcases List.eq_nil_or_concat W' with rfl | ⟨L, p, rfl⟩
    · rfl
    · rw [List.concat_eq_append] at hc' hr'
      obtain ⟨_, h2⟩ := last L p s hc'
      exact (V.top p.1 ⟨p.2, hr' p (by simp), h2⟩).elim
  | succ k ih =>
    intro W W' v hl hc hr hc' hr'
    rcases List.eq_nil_or_concat W with rfl | ⟨L, p, rfl⟩
    · simp at hl
    · rw [List.concat_eq_append] at hc hr hl ⊢
      obtain ⟨h1, h2⟩ := last L p v hc
      rcases List.eq_nil_or_concat W' with rfl | ⟨L', p', rfl⟩
      · obtain rfl : s = v := hc'
        exact (V.top p.1 ⟨p.2, hr p (by simp), h2⟩).elim
      · rw [List.concat_eq_append] at hc' hr' ⊢
        obtain ⟨h3, h4⟩ := last L' p' v hc'
        obtain ⟨e1, e2⟩ := V.I.one p.1 p'.1 p.2 p'.2 (hr p (by simp)) (hr' p' (by simp)) (h2.trans h4.symm)
        have e : p = p' := Prod.ext e1 e2
        subst e
        rw [ih L L' p.1 (by simpa using hl) h1 (fun q hq => hr q (by simp [hq])) h3 (fun q hq => hr' q (by simp [hq]))]
theorem VT.wkok (V : VT ns cs x s r) {W : List (Nat × Int)} {v : Nat} (hc : chn cs s W v) (hr : inRows x.out W) : WkOk ns cs s W v :=
  ⟨hc, V.hs, fun p hp => by
    obtain ⟨k, h1, h2, h3, h4, h5, _⟩ := V.edge (hr p hp)
    exact ⟨k, h1, h2, h3, h5, h4⟩⟩
theorem VT.top_s (V : VT ns cs x s r) {u : Nat} (hd : DT cs x.out s u) (h : (reachR ns.length cs x).1.getD u 0 < 0) : u = s := by
  obtain ⟨j, hj⟩ := hd
  cases j with
  | zero => exact Eq.symm hj
  | succ j =>
    obtain ⟨y, _, o, ho, e⟩ := dsc_last j hj
    have h1 := V.ov_e y o ho
    obtain ⟨k, hk, _⟩ := V.edge ho
    rw [e] at h1
    omega
end
theorem DT.of_chn {cs : List Cb} {out : List (List Int)} : ∀ {W : List (Nat × Int)} {u v : Nat}, chn cs u W v → inRows out W → DT cs out u v
  | [], _, _, h, _ => by cases h; exact DT.refl _
  | p :: W, u, v, h, hr => by
    obtain ⟨h1, h2⟩ := h
    subst h1
    exact DT.step ⟨p.2, hr p (List.mem_cons_self ..), rfl⟩ (DT.of_chn h2 (fun q hq => hr q (List.mem_cons_of_mem _ hq)))
/-- Every walk of the tree from its source is legal. -/
def allLeg (cs : List Cb) (lv : List Int) (x : Tr) (k : Nat) : Prop := ∀ v W, v < k → chn cs x.src.toNat W v → inRows x.out W → legB lv (nodesW cs x.src.toNat W) (W.map (·.2)) = true
def TLPost (ns : List Nd) (cs : List Cb) (lv : List Int) (x : Tr) (w : World) (e : Ending) (w' : World) : Prop :=
  ∃ b : Bool, e = .returned (.bool b) ∧ Below w.heap.size w w' ∧ (b = true ↔ waysB ns cs x = true ∧ orderB ⟨ns, cs⟩ lv = true ∧ allLeg cs lv x ns.length)
theorem tlpost_no {ns : List Nd} {cs : List Cb} {lv : List Int} {x : Tr} {w w' : World} (hb : Below w.heap.size w w') (h : ¬ (waysB ns cs x = true ∧ orderB ⟨ns, cs⟩ lv = true ∧ allLeg cs lv x ns.length)) : TLPost ns cs lv x w (.returned (.bool false)) w' := ⟨false, rfl, hb, ⟨fun q => (by cases q), fun q => (h q).elim⟩⟩
def RelTl (cs : List Cb) (lv : List Int) (x : Tr) (n : Nat) (w3 : World) (i : Value) (wr : World) : Prop := ∃ k : Nat, k ≤ n ∧ i = .int .i64 k ∧ allLeg cs lv x k ∧ Below w3.heap.size w3 wr
def RelTi (cs : List Cb) (x : Tr) (n s k : Nat) (w3 : World) (v at_ : Value) (wr : World) : Prop :=
  ∃ (a : Nat) (W : List (Nat × Int)), at_ = .int .i64 a ∧ a < n ∧ DT cs x.out s a ∧ chn cs a W k ∧ inRows x.out W ∧ wr.ownsRow w3.heap.size 3 1 v W.length ((W.map (·.2)).reverse.flatMap cI) ∧ Below w3.heap.size w3 wr
set_option maxHeartbeats 1000000 in
theorem reverse_nil (w : World) : Calls Tryz.prog 64 #[.slice none 0 0] w fun e w' => e = .returned (.tuple #[]) ∧ w = w' := by
  go_enter Tryz.func64, Tryz.ntmps64
  go_wp2_with fail
  go_loopw [2, 3] (fun i j wr => i = .int .i64 0 ∧ j = .int .i64 (-1) ∧ w = wr) (fun i _ _ => 0)
  case atStart => exact ⟨rfl, rfl, rfl⟩
  case round =>
    obtain ⟨rfl, rfl, rfl⟩ := hrel
    go_wp2_with fail
    go_end0
    exact ⟨rfl, rfl⟩
set_option maxRecDepth 100000 in
set_option maxHeartbeats 8000000 in
theorem tlegal_any (ns : List Nd) (cs : List Cb) (lv : List Int) (x : Tr) (An Ac Al aO aD : Option Addr) (cn cc cl cO cD' : Nat) (w : World) (hl : ns.length ≤ 1000000) (hl2 : cs.length ≤ 1000000) (hwf : WfP ⟨ns, cs⟩) (hlv : lv.length ≤ 1000000) (hwl : WfI lv) (hx : SmallT x) (h : IsPlan w An Ac ⟨ns, cs⟩) (hlr : IsRec 1 cI 0 w Al lv.length lv) (h2 : IsTree w aO aD x) :
    Calls Tryz.prog 21 #[.agg #[.slice An ns.length cn, .slice Ac cs.length cc], .agg #[.slice Al lv.length cl], trV x aO aD cO cD'] w (TLPost ns cs lv x w) := by
  unfold trV
  obtain ⟨w1, hw1⟩ : ∃ w1 : World, ((w.alloc (.cells #[.slice An ns.length cn, .slice Ac cs.length cc] 25)).alloc (.cells #[.slice Al lv.length cl] 30)).alloc (.cells #[.int .i64 x.src, .slice aO x.out.length cO, .slice aD x.del.length cD'] 56) = w1 := ⟨_, rfl⟩
  have s0 : w1.cell? ⟨w.heap.size, 0, none⟩ = some (.slice An ns.length cn) := by rw [← hw1]; simp [go_sem]
  have s1 : w1.cell? ⟨w.heap.size, 1, none⟩ = some (.slice Ac cs.length cc) := by rw [← hw1]; simp [go_sem]
  have s2 : w1.cell? ⟨w.heap.size + 1, 0, none⟩ = some (.slice Al lv.length cl) := by rw [← hw1]; simp [go_sem]
  have t0 : w1.cell? ⟨w.heap.size + 1 + 1, 0, none⟩ = some (.int .i64 x.src) := by rw [← hw1]; simp [go_sem]
  have sz1 : w.heap.size + 1 + 1 < w1.heap.size := by rw [← hw1]; simp
  have BW0 : Hid (Below w.heap.size w w1) := by rw [Hid, ← hw1]; exact (((Below.refl _ _).alloc (Nat.le_refl _) _).alloc (by simp) _).alloc (by simp; omega) _
  have WC := Lib.hid (ways_any ns cs x An Ac aO aD cn cc cO cD' w1 hl hl2 hwf hx.ol hx.rl hx.dl (h.below (Nat.le_refl _) BW0.out) (h2.out.below (Nat.le_refl _) BW0.out) (h2.del.below (Nat.le_refl _) BW0.out))
  have H1 := Lib.hid (h.below (Nat.le_refl _) BW0.out)
  have L1 := Lib.hid (hlr.below (Nat.le_refl _) BW0.out)
  have HW1 := Lib.hid hw1
  have KC : Hid (∀ w', Below w1.heap.size w1 w' → (w'.cell? ⟨w.heap.size, 0, none⟩ = some (.slice An ns.length cn) ∧ w'.cell? ⟨w.heap.size, 1, none⟩ = some (.slice Ac cs.length cc) ∧ w'.cell? ⟨w.heap.size + 1, 0, none⟩ = some (.slice Al lv.length cl) ∧ w'.cell? ⟨w.heap.size + 1 + 1, 0, none⟩ = some (.int .i64 x.src)) ∧ Below w.heap.size w w' ∧ IsPlan w' An Ac ⟨ns, cs⟩ ∧ IsRec 1 cI 0 w' Al lv.length lv) :=
    fun w' hb => ⟨⟨(hb.cell (by show w.heap.size < _; omega)).trans s0, (hb.cell (by show w.heap.size < _; omega)).trans s1, (hb.cell (by show w.heap.size + 1 < _; omega)).trans s2, (hb.cell (by exact sz1)).trans t0⟩, BW0.out.trans (hb.mono (by omega)), H1.out.below (Nat.le_refl _) hb, L1.out.below (Nat.le_refl _) hb⟩
  have HWF := Lib.hid hwf
  have HWL := Lib.hid hwl
  clear h h2 hlr hw1 hwf hwl hx s0 s1 s2 t0
  go_enter Tryz.func21, Tryz.ntmps21
  go_wp2_with fail
  rw [HW1.out]
  refine WC.out.mono ?_
  rintro e w2 ⟨bel, ⟨hb, rfl⟩ | ⟨hb, g, rfl, hg, hov⟩⟩
  · have F : Hid (TLPost ns cs lv x w (.returned (.bool false)) w2) := tlpost_no (BW0.out.trans (bel.mono BW0.out.size)) (fun q => by rw [hb] at q; cases q.1)
    clear WC bel hb
    go_wp2_with fail
    go_ret
    exact F.out
  · obtain ⟨s, r, vt⟩ := valid_tree hb
    have HB := Lib.hid hb
    have V := Lib.hid vt
    have OV := Lib.hid hov
    have B2 := Lib.hid bel
    obtain ⟨n16, c32⟩ := valid_sizes vt.hv
    obtain ⟨⟨c0, c1, c2, c3⟩, _, pl2, lr2⟩ := KC.out w2 bel
    have OC := Lib.hid (order_any ⟨ns, cs⟩ lv An Ac Al cn cc cl w2 (by show ns.length ≤ _; omega) (by show cs.length ≤ _; omega) HWF.out hlv HWL.out pl2 lr2)
    clear vt hov hb bel WC pl2 lr2
    go_wp2_with fail
    refine (show Calls _ _ _ _ _ from OC.out).mono ?_
    rintro e w3 ⟨rfl, bel3⟩
    have B3 : Hid (Below w1.heap.size w1 w3) := B2.out.trans (bel3.mono B2.out.size)
    have OV3 : Hid (IsRec 1 cI 0 w3 (some ⟨g, 0, none⟩) ns.length (reachR ns.length cs x).1) := OV.out.below (Nat.le_refl _) bel3
    have BW3 := Lib.hid (KC.out w3 B3.out).2.1
    clear bel3 OC c0 c1 c2 c3
    cases ho : orderB ⟨ns, cs⟩ lv with
    | false =>
      have F : Hid (TLPost ns cs lv x w (.returned (.bool false)) w3) := tlpost_no BW3.out (fun q => by rw [ho] at q; cases q.2.1)
      clear ho
      go_wp2_with fail
      go_ret
      exact F.out
    | true =>
      have HO := Lib.hid ho
      have SRC : Hid (x.src = (s : Int)) := V.out.src
      have S23 : Hid (x.src.toNat = s) := by rw [Hid, V.out.src, Int.toNat_natCast]
      have INN : Hid (∀ u, u < ns.length → DT cs x.out s u → ¬ (reachR ns.length cs x).1.getD u 0 < 0 → ∃ (y k : Nat), (k : Int) ∈ x.out.getD y [] ∧ othN cs y k = u ∧ (reachR ns.length cs x).1.getD u 0 = k ∧ touchT (cs.getD k cb0) y u ∧ k < cs.length ∧ y < ns.length ∧ r y < r u) := fun u hu _ q => by
        obtain ⟨y, k, a1, a2, a3, a4, a5, a6, a7, a8, a9, a10⟩ := V.out.inn hu q
        exact ⟨y, k, a1, a2, a3, a4, a5, a6, a10⟩
      have RCH : Hid (∀ u, u < ns.length → (DT cs x.out s u ↔ (reachR ns.length cs x).1.getD u 0 ≠ -2)) := fun u hu => by
        have := V.out.ov_n u hu
        constructor
        · intro hd e; exact this.1 e hd
        · intro hd; exact Classical.byContradiction fun q => hd (this.2 q)
      have TOPS : Hid (∀ u, DT cs x.out s u → (reachR ns.length cs x).1.getD u 0 < 0 → u = s) := fun u hd hneg => V.out.top_s hd hneg
      have CN : Hid (∀ k, k < cs.length → (0 ≤ (cs.getD k cb0).a ∧ (cs.getD k cb0).a ≤ 1000000) ∧ 0 ≤ (cs.getD k cb0).b ∧ (cs.getD k cb0).b ≤ 1000000) := fun k hk => by
        have := cab_node V.out.hv (show cs.getD k cb0 ∈ cs by simp [List.getD, hk])
        omega
      generalize hovg : (reachR ns.length cs x).1 = ov at *
      have ST : Hid (RelTl cs lv x ns.length w3 (.int .i64 0) w3) := ⟨0, Nat.zero_le _, rfl, fun v W hv => (by omega), Below.refl _ _⟩
      have KC3 : Hid (∀ w', Below w3.heap.size w3 w' → Below w1.heap.size w1 w') := fun w' hb => B3.out.trans (hb.mono B3.out.size)
      have OVc : Hid (∀ w', Below w3.heap.size w3 w' → ∀ k, k < ns.length → w'.cell? ⟨g, k, none⟩ = some (.int .i64 (ov.getD k 0))) := fun w' hb k hk => by
        obtain ⟨b9, o9, ha9, _, _, f0⟩ := int_at (OV3.out.below (Nat.le_refl _) hb) k hk
        injection ha9 with ha9
        injection ha9 with ga gb
        subst ga
        subst gb
        rwa [Nat.zero_add] at f0
      obtain ⟨i0, hi0, hz0, hz1, hz2⟩ := info_parts infoIntL
      clear ho hovg
      go_wp2_with fail
      go_loopw [29] (fun i wr => RelTl cs lv x ns.length w3 i wr) (fun i _ => ns.length - (RowKit.intOf i).toNat)
      case atStart => exact ST.out
      case round =>
        clear ST
        obtain ⟨k, hk, rfl, hal, belr⟩ := hrel
        have BE := Lib.hid belr
        have HAL := Lib.hid hal
        clear belr hal
        by_cases hkr : k < ns.length
        · have e1 := OVc.out wr BE.out k hkr
          have ki : (k : Int) < (ns.length : Int) := by omega
          cases hun : ov.getD k 0 == -2 with
          | true =>
            have R : Hid (RelTl cs lv x ns.length w3 (.int .i64 ((k + 1 : Nat) : Int)) wr) := ⟨k + 1, by omega, rfl, fun v W hv hc hr => by
              by_cases e : v < k
              · exact HAL.out v W e hc hr
              · obtain rfl : v = k := by omega
                rw [S23.out] at hc
                have hd : DT cs x.out s v := DT.of_chn hc hr
                exact absurd (by simpa using hun) ((RCH.out v hkr).1 hd), BE.out⟩
            generalize ov.getD k 0 = c at *
            go_wp2_with fail
            exact ⟨by simpa using R.out, by simp [RowKit.intOf]; omega⟩
          | false =>
            have hdk : DT cs x.out s k := (RCH.out k hkr).2 (by simpa using hun)
            have ST2 : Hid (RelTi cs x ns.length s k w3 (.slice none 0 0) (.int .i64 (k : Int)) wr) := ⟨k, [], rfl, hkr, hdk, rfl, fun p hp => (by cases hp), World.ownsRow_nil _ _ _ _, BE.out⟩
            generalize hck : ov.getD k 0 = c at *
            clear hck hdk
            go_wp2_with fail
            clear e1
            go_loopw [11, 12] (fun v a wr => RelTi cs x ns.length s k w3 v a wr) (fun _ a _ => r (RowKit.intOf a).toNat)
            case atStart => exact ST2.out
            case round =>
              clear ST2
              obtain ⟨a, W, rfl, ha, hd, hc, hr, own, belr⟩ := hrel
              have BQ := Lib.hid belr
              have OW := Lib.hid own
              have HC := Lib.hid hc
              have HR := Lib.hid hr
              have e1 := OVc.out wr BQ.out a ha
              have ai : (a : Int) < (ns.length : Int) := by omega
              have hwl' : W.length ≤ 16 := Nat.le_trans (walk_len V.out.I hc hr) n16
              clear belr own
              by_cases hneg : ov.getD a 0 < 0
              · obtain rfl : a = s := TOPS.out a hd hneg
                generalize ov.getD a 0 = c2 at *
                have LG : Hid (∀ (P : Option Addr) (cp : Nat) (w' : World), Below w3.heap.size w3 w' → IsRec 1 cI 0 w' P W.length (W.map (·.2)) → Calls Tryz.prog 65 #[.agg #[.slice An ns.length cn, .slice Ac cs.length cc], .agg #[.slice Al lv.length cl], .int .i64 (a : Int), .slice P W.length cp] w' fun e w'' => e = .returned (.bool (legB lv (nodesW cs a W) (W.map (·.2)))) ∧ Below w'.heap.size w' w'') := fun P cp w' hb hp => by
                  obtain ⟨_, _, pl, lr⟩ := KC.out w' (KC3.out w' hb)
                  exact ulegal_any ns cs lv a k W An Ac Al P cn cc cl cp w' HO.out HWF.out hlv HWL.out (V.out.wkok HC.out HR.out) (by omega) pl lr hp
                have NXT : Hid (∀ wq, legB lv (nodesW cs a W) (W.map (·.2)) = true → Below w3.heap.size w3 wq → RelTl cs lv x ns.length w3 (.int .i64 ((k + 1 : Nat) : Int)) wq) := fun wq hg hb =>
                  ⟨k + 1, by omega, rfl, fun v W' hv hc' hr' => by
                    by_cases e : v < k
                    · exact HAL.out v W' e hc' hr'
                    · obtain rfl : v = k := by omega
                      rw [S23.out] at hc' ⊢
                      rw [← V.out.walk_uniq W.length W W' v rfl HC.out HR.out hc' hr']
                      exact hg, hb⟩
                have BADX : Hid (∀ wq, legB lv (nodesW cs a W) (W.map (·.2)) = false → Below w3.heap.size w3 wq → TLPost ns cs lv x w (.returned (.bool false)) wq) := fun wq hg hb =>
                  tlpost_no (KC.out wq (KC3.out wq hb)).2.1 (fun q => by
                    have h3 := q.2.2 k W hkr (by rw [S23.out]; exact HC.out) HR.out
                    rw [S23.out, hg] at h3
                    cases h3)
                generalize legB lv (nodesW cs a W) (W.map (·.2)) = lb at *
                have PML : (W.map (·.2)).reverse.length = W.length := by simp
                rcases OW.out.2 with ⟨rfl, h0⟩ | ⟨gp, capp, cur, rfl, hrest⟩
                · have hw0 : W = [] := List.eq_nil_of_length_eq_zero h0
                  have LG2 := Lib.hid (LG.out none 0 wr BQ.out (by rw [hw0]; exact IsRec.nil _))
                  rw [h0] at LG2
                  obtain ⟨⟨c0, c1, c2', c3⟩, _⟩ := KC.out wr (KC3.out wr BQ.out)
                  rw [SRC.out] at c3
                  clear LG OW h0 hwl' HAL HC HR hc hr hw0 PML
                  go_wp2_with fail
                  refine (reverse_nil _).mono ?_
                  rintro e wz ⟨rfl, rfl⟩
                  go_wp2_with fail
                  refine LG2.out.mono ?_
                  rintro e wz ⟨rfl, belz⟩
                  have BZ : Hid (Below w3.heap.size w3 wz) := BQ.out.trans (belz.mono BQ.out.size)
                  clear belz LG2 c0 c1 c2' c3 e1
                  cases lb with
                  | true =>
                    have R := Lib.hid (NXT.out wz rfl BZ.out)
                    clear NXT BADX
                    go_wp2_with fail
                    exact ⟨by simpa using R.out, by simp [RowKit.intOf]; omega⟩
                  | false =>
                    have F := Lib.hid (BADX.out wz rfl BZ.out)
                    clear NXT BADX
                    go_wp2_with fail
                    go_ret
                    exact F.out
                · have OWR : wr.ownsRow w3.heap.size 3 1 (.slice (some ⟨gp, 0, none⟩) (W.map (·.2)).reverse.length capp) (W.map (·.2)).reverse.length ((W.map (·.2)).reverse.flatMap cI) := by rw [PML]; exact OW.out
                  have RV := reverseI_any (W.map (·.2)).reverse w3.heap.size gp capp wr (by rw [PML]; omega) OWR
                  rw [PML, List.reverse_reverse] at RV
                  have RVH := Lib.hid RV
                  clear OWR RV OW hrest hwl' HAL HC HR hc hr
                  go_wp2_with fail
                  refine RVH.out.mono ?_
                  rintro e wz ⟨rfl, ownz, belz, hsz⟩
                  have BZ : Hid (Below w3.heap.size w3 wz) := BQ.out.trans belz
                  obtain ⟨aR, cR, hR, _, recz, _⟩ := rec_of_own (d := (0 : Int)) cI_length (by decide) ownz
                  injection hR with hR _ hR2
                  subst hR
                  subst hR2
                  have LG2 := Lib.hid (LG.out (some ⟨gp, 0, none⟩) capp wz BZ.out recz)
                  obtain ⟨⟨c0, c1, c2', c3⟩, _⟩ := KC.out wz (KC3.out wz BZ.out)
                  rw [SRC.out] at c3
                  clear LG ownz belz hsz recz RVH e1 PML
                  go_wp2_with fail
                  refine LG2.out.mono ?_
                  rintro e wy ⟨rfl, bely⟩
                  have BY : Hid (Below w3.heap.size w3 wy) := BZ.out.trans (bely.mono BZ.out.size)
                  clear bely LG2 c0 c1 c2' c3
                  cases lb with
                  | true =>
                    have R := Lib.hid (NXT.out wy rfl BY.out)
                    clear NXT BADX
                    go_wp2_with fail
                    exact ⟨by simpa using R.out, by simp [RowKit.intOf]; omega⟩
                  | false =>
                    have F := Lib.hid (BADX.out wy rfl BY.out)
                    clear NXT BADX
                    go_wp2_with fail
                    go_ret
                    exact F.out
              · obtain ⟨y, q, hq1, hq2, hq3, hq4, hq5, hq6, hq7⟩ := INN.out a ha hd (by omega)
                have hdy : DT cs x.out s y := V.out.row y (fun e => by rw [e] at hq1; cases hq1)
                have hoz : othZ (cs.getD q cb0) (a : Int) = (y : Int) := by
                  unfold othZ
                  rcases hq4 with ⟨h1, h2⟩ | ⟨h1, h2⟩ <;> omega
                have NXT : Hid (∀ v' wq, wq.ownsRow w3.heap.size 3 1 v' (W.length + 1) ((W.map (·.2)).reverse.flatMap cI ++ [.int .i64 (q : Int)]) → Below w3.heap.size w3 wq → RelTi cs x ns.length s k w3 v' (.int .i64 (y : Int)) wq) := fun v' wq ho hb =>
                  ⟨y, (y, (q : Int)) :: W, rfl, hq6, hdy, ⟨rfl, by rw [Int.toNat_natCast]; simp only; rw [hq2]; exact hc⟩, fun p hp => by
                    rcases List.mem_cons.1 hp with rfl | hp
                    · exact hq1
                    · exact hr p hp, by
                    rw [List.map_cons, List.reverse_cons, List.flatMap_append, List.length_cons]
                    simpa [cI] using ho, hb⟩
                have OC2 : Hid (∀ w', Below w1.heap.size w1 w' → Calls Tryz.prog 52 #[.agg #[.slice An ns.length cn, .slice Ac cs.length cc], .int .i64 (q : Int), .int .i64 (a : Int)] w' fun e w'' => e = .returned (.int .i64 (y : Int)) ∧ Below w'.heap.size w' w'') := fun w' hb => by
                  have := tother_any ns cs An Ac cn cc q (a : Int) w' hl2 hq5 (KC.out w' hb).2.2.1.2 (CN.out q hq5).1 (CN.out q hq5).2 (by omega)
                  rw [hoz] at this
                  exact this
                rw [hq3] at e1 hneg
                have RD : Hid (Reads (wr.alloc (.cells #[.int .i64 (q : Int)] 3)) (wr.heap.size + 1) 1 (some ⟨wr.heap.size, 0, none⟩) 1 [.int .i64 (q : Int)]) := reads_newL wr _ _
                have OA : Hid ((wr.alloc (.cells #[.int .i64 (q : Int)] 3)).ownsRow w3.heap.size 3 1 u11 W.length ((W.map (·.2)).reverse.flatMap cI)) := OW.out.alloc _
                have BA : Hid (Below w3.heap.size w3 (wr.alloc (.cells #[.int .i64 (q : Int)] 3))) := BQ.out.alloc BQ.out.size _
                have hz4 := BQ.out.size
                have MS : Hid (r y < r a) := hq7
                have HQ3 := Lib.hid hq3
                generalize (W.map (·.2)).reverse = RVW at *
                generalize W.length = wl at *
                clear hq1 hq2 hq3 hq4 hq7 hoz hc hr HC HR hd hdy
                go_wp2_with (at_builtin; refine wpList_append_any _ rfl (.tmp 49) (.tmp 54) 28 rfl w3.heap.size 3 i0 _ 1 8 Tryz.underlying28 hi0 hz0 hz1 hz2 rfl (by decide) _ wl _ rfl OA.out (wr.heap.size + 1) (some ⟨wr.heap.size, 0, none⟩) 1 1 [.int .i64 (q : Int)] rfl RD.out ?m1q ?m2q ?m3q ?m4q ?_)
                case m1q => first | rfl | (intro z hz; simp at hz; rw [hz]; rfl)
                case m2q => unfold maxLen; omega
                case m3q => omega
                case m4q => first | omega | (simp; omega)
                intro v2 w5 own2 gr2 _
                have B5 : Hid (Below w3.heap.size w3 w5) := BA.out.grown gr2 (by simp; omega) (fun g e => by have := (OA.out.lt g e).1; omega)
                have O5 := Lib.hid own2
                have BX5 : Hid (Below w1.heap.size w1 w5) := KC3.out w5 B5.out
                have e5 := OVc.out w5 B5.out a ha
                rw [HQ3.out] at e5
                obtain ⟨⟨c0, c1, _⟩, _⟩ := KC.out w5 BX5.out
                have KP : Hid (∀ w', Below w5.heap.size w5 w' → w'.cell? ⟨w.heap.size, 0, none⟩ = some (.slice An ns.length cn) ∧ w'.cell? ⟨w.heap.size, 1, none⟩ = some (.slice Ac cs.length cc) ∧ w'.cell? ⟨g, a, none⟩ = some (.int .i64 (q : Int))) := fun w' hb => by
                  have h3 := B5.out.trans (hb.mono B5.out.size)
                  have h1 := OVc.out w' h3 a ha
                  rw [HQ3.out] at h1
                  exact ⟨(KC.out w' (KC3.out w' h3)).1.1, (KC.out w' (KC3.out w' h3)).1.2.1, h1⟩
                clear own2 gr2 RD OA e1
                go_wp2_with fail
                go_region_held3 (fun w' => w'.cell? ⟨w.heap.size, 0, none⟩ = some (.slice An ns.length cn) ∧ w'.cell? ⟨w.heap.size, 1, none⟩ = some (.slice Ac cs.length cc) ∧ w'.cell? ⟨g, a, none⟩ = some (.int .i64 (q : Int)))
                  (first | exact ⟨c0, c1, e5⟩ | (refine KP.out _ ?_; repeat (first | exact Below.refl _ _ | exact BS.out | refine Below.drew ?_)))
                  (first
                    | (go_at_call 52
                       refine (OC2.out _ (by repeat (first | exact BX5.out | refine Below.drew ?_))).mono ?_
                       rintro e ws ⟨rfl, bels⟩
                       have BS : Hid (Below w5.heap.size w5 ws) := (Below.refl _ _).drew.trans bels
                       clear bels))
                all_goals
                  have R := Lib.hid (NXT.out v2 ws (own_belowL O5.out BS.out) (B5.out.trans (BS.out.mono B5.out.size)))
                  clear c0 c1 e5
                  go_wp2_with fail
                  exact ⟨by simpa using R.out, by simp [RowKit.intOf]; exact MS.out⟩
        · obtain rfl : k = ns.length := by omega
          have F : Hid (TLPost ns cs lv x w (.returned (.bool true)) wr) := ⟨true, rfl, (KC.out wr (KC3.out wr BE.out)).2.1, ⟨fun _ => ⟨HB.out, HO.out, HAL.out⟩, fun _ => rfl⟩⟩
          go_wp2_with fail
          go_ret
          exact F.out
end Go.Proofs.YtljojgpjgjfddaaGreat
