/- The contracts of the reference's at, Has, insert and parent. -/
import Derived.Test.YtljojgpjgjfddaaTFits
import Derived.Test.YtljojgpjgjfddaaTPathP
import Derived.Test.YtljojgpjgjfddaaTList
import Derived.Test.YtljojgpjgjfddaaTMakeP
namespace Go.Proofs.Ytljojgpjgjfddaa
open Go.RowKit Go.Maps
set_option linter.unusedVariables false
set_option linter.unusedSimpArgs false

set_option maxHeartbeats 1000000 in
theorem at23_any (ns : List Nd) (cs : List Cb) (An Ac : Option Addr) (cn cc k : Nat) (u : Int) (w : World) (hl : cs.length ≤ 1000000) (hk : k < cs.length) (h : IsRec 6 cC cb0 w Ac cs.length cs) :
    Calls Try.prog 129 #[.agg #[.slice An ns.length cn, .slice Ac cs.length cc], .int .i64 (k : Int), .int .i64 u] w fun e w' => e = .returned (.bool (endT (cs.getD k cb0) u)) ∧ Below w.heap.size w w' := by
  have B : Hid (Below w.heap.size w (w.alloc (.cells #[.slice An ns.length cn, .slice Ac cs.length cc] 25))) := (Below.refl _ _).alloc (Nat.le_refl _) _
  obtain ⟨bc, oc, hAc, hbc, _, ca, cap', cb, cbp, cd, ccp⟩ := cable_at h k hk
  have kw : (k : Int) < (cs.length : Int) := by omega
  have k0 : (0 : Int) ≤ (k : Int) := by omega
  generalize cs.getD k cb0 = x at *
  obtain ⟨xa, xap, xb, xbp, xd, xc⟩ := x
  simp only at ca cap' cb cbp cd ccp
  have E : Hid (endT ⟨xa, xap, xb, xbp, xd, xc⟩ u = (xa == u || xb == u)) := rfl
  subst hAc
  clear h
  cases h1 : xa == u with
  | true =>
    rw [h1] at E
    go_enter Try.func129, Try.ntmps129
    go_wp2_with fail
    go_ret
    exact ⟨by rw [E.out]; rfl, B.out⟩
  | false =>
    rw [h1] at E
    cases h2 : xb == u with
    | true =>
      rw [h2] at E
      go_enter Try.func129, Try.ntmps129
      go_wp2_with fail
      go_ret
      exact ⟨by rw [E.out]; first | rfl | simp [h2], B.out⟩
    | false =>
      rw [h2] at E
      go_enter Try.func129, Try.ntmps129
      go_wp2_with fail
      go_ret
      exact ⟨by rw [E.out]; first | rfl | simp [h2], B.out⟩
def RelHs (l : List Int) (x : Int) (w0 : World) (i : Value) (wr : World) : Prop := ∃ k : Nat, k ≤ l.length ∧ i = .int .i64 k ∧ x ∉ l.take k ∧ w0 = wr
set_option maxHeartbeats 1000000 in
theorem has23_any (l : List Int) (x : Int) (a : Option Addr) (c : Nat) (w : World) (hl : l.length ≤ 1000000) (h : IsRec 1 cI 0 w a l.length l) :
    Calls Try.prog 63 #[.slice a l.length c, .int .i64 x] w fun e w' => e = .returned (.bool (decide (x ∈ l))) ∧ w = w' := by
  have H := Lib.hid h
  clear h
  go_enter Try.func63, Try.ntmps63
  go_wp2_with fail
  go_loopw [5] (fun i wr => RelHs l x w i wr) (fun i _ => l.length - (RowKit.intOf i).toNat)
  case atStart => exact ⟨0, Nat.zero_le _, rfl, by simp, rfl⟩
  case round =>
    obtain ⟨k, hk, rfl, hno, rfl⟩ := hrel
    have HN := Lib.hid hno
    clear hno
    by_cases hkr : k < l.length
    · obtain ⟨b1, o1, ha1, hb1, hm1, e1⟩ := int_at H.out k hkr
      have TS := Lib.hid (take_snocG 0 l k hkr)
      have FI : Hid ((l.getD k 0 == x) = true → decide (x ∈ l) = true) := fun h => by
        have : l.getD k 0 = x := by simpa using h
        rw [← this]; exact decide_eq_true hm1
      generalize l.getD k 0 = y at *
      subst ha1
      have ki : (k : Int) < (l.length : Int) := by omega
      clear hm1
      cases hq : y == x with
      | true =>
        have F := Lib.hid (FI.out hq)
        clear FI TS
        go_wp2_with fail
        go_ret
        exact ⟨by rw [F.out]; rfl, rfl⟩
      | false =>
        have hne : ¬ y = x := by simpa using hq
        have R : Hid (RelHs l x w (.int .i64 ((k + 1 : Nat) : Int)) w) := ⟨k + 1, by omega, rfl, by
          rw [TS.out, List.mem_append, List.mem_singleton]
          rintro (h | h)
          · exact HN.out h
          · exact hne h.symm, rfl⟩
        clear FI TS hne
        go_wp2_with fail
        exact ⟨by simpa using R.out, by simp [RowKit.intOf]; omega⟩
    · obtain rfl : k = l.length := by omega
      have F : Hid (decide (x ∈ l) = false) := decide_eq_false (by have := HN.out; rwa [List.take_length] at this)
      go_wp2_with fail
      go_ret
      exact ⟨by rw [F.out]; rfl, rfl⟩
/-- One element comes behind, the number ahead of it if it is the first greater one. -/
def stpI (n : Int) (p : List Int × Bool) (x : Int) : List Int × Bool := if p.2 = false ∧ n < x then (p.1 ++ [n] ++ [x], true) else (p.1 ++ [x], p.2)
def insS (l : List Int) (n : Int) (k : Nat) : List Int × Bool := (l.take k).foldl (stpI n) ([], false)
theorem insS_zero (l : List Int) (n : Int) : insS l n 0 = ([], false) := rfl
theorem insS_succ {l : List Int} {n : Int} {k : Nat} (h : k < l.length) : insS l n (k + 1) = stpI n (insS l n k) (l.getD k 0) := by
  unfold insS; rw [take_snocG 0 l k h, List.foldl_append]; rfl
theorem insS_len (l : List Int) (n : Int) (k : Nat) : (insS l n k).1.length ≤ 2 * k := by
  induction k with
  | zero => simp [insS_zero]
  | succ k ih =>
    by_cases h : k < l.length
    · rw [insS_succ h]; unfold stpI; split <;> simp <;> omega
    · have : l.take (k + 1) = l.take k := by rw [List.take_of_length_le (by omega), List.take_of_length_le (by omega)]
      have e : insS l n (k + 1) = insS l n k := by unfold insS; rw [this]
      rw [e]; omega
theorem insS_form {l : List Int} {n : Int} (hp : l.Pairwise (· < ·)) (hn : n ∉ l) (k : Nat) (hk : k ≤ l.length) :
    insS l n k = ((l.take k).filter (fun x => decide (x < n)) ++ (if (l.take k).any (fun x => decide (n < x)) then n :: (l.take k).filter (fun x => decide (n < x)) else []), (l.take k).any (fun x => decide (n < x))) := by
  induction k with
  | zero => rfl
  | succ k ih =>
    have hkl : k < l.length := by omega
    rw [insS_succ hkl, ih (by omega), take_snocG 0 l k hkl]
    have hx : l.getD k 0 ∈ l := by simp [List.getD, hkl]
    have hne : l.getD k 0 ≠ n := fun e => hn (e ▸ hx)
    have hgt : (l.take k).any (fun x => decide (n < x)) = true → n < l.getD k 0 := by
      intro h
      rw [List.any_eq_true] at h
      obtain ⟨y, hy, hny⟩ := h
      have hny : n < y := by simpa using hny
      obtain ⟨i, hi, e⟩ := List.getElem_of_mem hy
      rw [List.length_take] at hi
      have e2 : l[i]'(by omega) = y := by rw [← e]; simp
      rw [List.pairwise_iff_getElem] at hp
      have := hp i k (by omega) hkl (by omega)
      rw [e2] at this
      have e3 : l.getD k 0 = l[k] := by simp [List.getD, hkl]
      rw [e3]; omega
    generalize l.getD k 0 = x at *
    generalize l.take k = t at *
    rw [List.filter_append, List.filter_append, List.any_append]
    unfold stpI
    cases ha : t.any (fun x => decide (n < x)) with
    | true =>
      have h1 := hgt ha
      simp [h1, show ¬ x < n by omega]
    | false =>
      by_cases h1 : n < x
      · have hf : t.filter (fun x => decide (n < x)) = [] := by
          rw [List.filter_eq_nil_iff]
          intro y hy h
          rw [List.any_eq_false] at ha
          exact ha y hy h
        simp [h1, show ¬ x < n by omega, hf]
      · have h2 : x < n := by omega
        simp [h1, h2]
theorem insS_end {l : List Int} {n : Int} (hp : l.Pairwise (· < ·)) (hn : n ∉ l) : (if (insS l n l.length).2 = true then (insS l n l.length).1 else (insS l n l.length).1 ++ [n]) = insA l n := by
  rw [insS_form hp hn l.length (Nat.le_refl _), List.take_length]
  unfold insA
  rw [if_neg hn]
  cases ha : l.any (fun x => decide (n < x)) with
  | true => simp
  | false =>
    have hf : l.filter (fun x => decide (n < x)) = [] := by
      rw [List.filter_eq_nil_iff]
      intro y hy h
      rw [List.any_eq_false] at ha
      exact ha y hy h
    simp [hf]
def RelIn (l : List Int) (n : Int) (w0 : World) (v d i : Value) (wr : World) : Prop :=
  ∃ k : Nat, k ≤ l.length ∧ i = .int .i64 k ∧ d = .bool (insS l n k).2 ∧ wr.ownsRow w0.heap.size 3 1 v (insS l n k).1.length ((insS l n k).1.flatMap cI) ∧ Below w0.heap.size w0 wr
theorem reads_newI (w : World) (t : TypeId) (cs : Array Value) {n : Nat} (h : cs.size = n * 1) : Reads (w.alloc (.cells cs t)) (w.heap.size + 1) 1 (some ⟨w.heap.size, 0, none⟩) n cs.toList :=
  ⟨by simpa using h, fun _ => ⟨_, rfl, by simp, fun q u hu => World.news_of_block (cs := cs) (t := t) (fr := (0, 0)) (heap_alloc_new w _) q u hu⟩⟩
theorem own_snocI {w : World} {base : Nat} {v : Value} {l : List Int} {x : Int} (h : w.ownsRow base 3 1 v (l.length + 1) (l.flatMap cI ++ [.int .i64 x])) : w.ownsRow base 3 1 v (l ++ [x]).length ((l ++ [x]).flatMap cI) := by
  rw [List.length_append, List.length_singleton, List.flatMap_append]; exact h
set_option maxRecDepth 100000 in
set_option maxHeartbeats 4000000 in
theorem ins23_any (l : List Int) (n : Int) (a : Option Addr) (c : Nat) (w : World) (hl : l.length ≤ 1000) (hp : l.Pairwise (· < ·)) (h : IsRec 1 cI 0 w a l.length l) :
    Calls Try.prog 64 #[.slice a l.length c, .int .i64 n] w fun e w' => ∃ a' c', e = .returned (.slice a' (insA l n).length c') ∧ IsRec 1 cI 0 w' a' (insA l n).length (insA l n) ∧ (∀ x, a' = some x → a = some x ∨ w.heap.size ≤ x.block) ∧ Below w.heap.size w w' := by
  have HS := Lib.hid (has23_any l n a c w (by omega) h)
  have H := Lib.hid h
  obtain ⟨i0, hi0, hz0, hz1, hz2⟩ := info_parts infoInt
  clear h
  by_cases hm : n ∈ l
  · have EI : Hid (insA l n = l) := by rw [Hid]; unfold insA; rw [if_pos hm]
    rw [decide_eq_true hm] at HS
    clear hm hi0 hz0 hz1 hz2
    go_enter Try.func64, Try.ntmps64
    go_wp2_with fail
    refine HS.out.mono ?_
    rintro e w1 ⟨rfl, rfl⟩
    go_wp2_with fail
    go_ret
    exact ⟨a, c, by rw [EI.out]; rfl, by rw [EI.out]; exact H.out, fun x hx => .inl hx, Below.refl _ _⟩
  · rw [decide_eq_false hm] at HS
    have EE := Lib.hid (insS_end hp hm)
    have FIN : Hid (∀ (v : Value) (wr : World), wr.ownsRow w.heap.size 3 1 v (insA l n).length ((insA l n).flatMap cI) → Below w.heap.size w wr → ∃ a' c', Ending.returned v = .returned (.slice a' (insA l n).length c') ∧ IsRec 1 cI 0 wr a' (insA l n).length (insA l n) ∧ (∀ x, a' = some x → a = some x ∨ w.heap.size ≤ x.block) ∧ Below w.heap.size w wr) := fun v wr ho hb => by
      obtain ⟨a', c', rfl, _, hr, hx⟩ := rec_of_own (d := (0 : Int)) cI_length (by decide) ho
      exact ⟨a', c', rfl, hr, fun x h => .inr (hx x h), hb⟩
    clear hp hm
    go_enter Try.func64, Try.ntmps64
    go_wp2_with fail
    refine HS.out.mono ?_
    rintro e w1 ⟨rfl, rfl⟩
    go_wp2_with fail
    go_loopw [5, 6, 7] (fun v d i wr => RelIn l n w v d i wr) (fun _ _ i _ => l.length - (RowKit.intOf i).toNat)
    case atStart => exact ⟨0, Nat.zero_le _, rfl, rfl, World.ownsRow_nil _ _ _ _, Below.refl _ _⟩
    case round =>
      obtain ⟨k, hk, rfl, rfl, own, bel⟩ := hrel
      have OW := Lib.hid own
      have BE := Lib.hid bel
      have bsz := bel.size
      by_cases hkr : k < l.length
      · obtain ⟨b1, o1, ha1, hb1, hm1, e1⟩ := int_at (H.out.below (Nat.le_refl _) bel) k hkr
        have EX : Hid (∀ w', Below w.heap.size w w' → w'.cell? ⟨b1, o1 + k, none⟩ = some (.int .i64 (l.getD k 0))) := fun w' hb => by
          obtain ⟨b, o, ha, _, _, e⟩ := int_at (H.out.below (Nat.le_refl _) hb) k hkr
          rw [ha1] at ha
          injection ha with ha
          injection ha with h1 h2
          subst h1
          subst h2
          exact e
        have SU := insS_succ (n := n) hkr
        have ln := insS_len l n k
        generalize l.getD k 0 = x at *
        generalize hS : insS l n k = S at *
        obtain ⟨out, d⟩ := S
        simp only at ln own
        have hln : out.length ≤ 2000 := by omega
        subst ha1
        have ki : (k : Int) < (l.length : Int) := by omega
        have NXT : Hid (∀ (v : Value) (wa : World) (o2 : List Int) (d2 : Bool), insS l n (k + 1) = (o2, d2) → wa.ownsRow w.heap.size 3 1 v o2.length (o2.flatMap cI) → Below w.heap.size w wa → RelIn l n w v (.bool d2) (.int .i64 ((k + 1 : Nat) : Int)) wa) := fun v wa o2 d2 e ho hb => ⟨k + 1, by omega, rfl, by rw [e], by rw [e]; exact ho, hb⟩
        have OB : Hid (∀ (q : Nat) (wa : World) (v : Value) (lo : List Int), wa.ownsRow w.heap.size 3 1 v lo.length (lo.flatMap cI) → Below w.heap.size w wa → ∀ (v' : Value) (wb : World) (y : Int), wb.ownsRow w.heap.size 3 1 v' (lo.length + 1) (lo.flatMap cI ++ [.int .i64 y]) → (wa.alloc (.cells #[.int .i64 y] 3)).grownBy wb v.ownBlock → wb.ownsRow w.heap.size 3 1 v' (lo ++ [y]).length ((lo ++ [y]).flatMap cI) ∧ Below w.heap.size w wb) := fun _ wa v lo ho hb v' wb y ho' hg =>
          ⟨own_snocI ho', (hb.alloc hb.size _).grown hg (by have := hb.size; simp; omega) (fun g e => (ho.lt g e).1)⟩
        clear hm1 hS own bel
        cases hd : d with
        | true =>
          subst hd
          have ES : Hid (insS l n (k + 1) = (out ++ [x], true)) := by rw [Hid, SU]; unfold stpI; simp
          clear SU
          go_wp2_with (at_builtin; refine wpList_append_any _ rfl (.tmp 32) (.tmp 37) 35 rfl w.heap.size 3 i0 _ 1 8 Try.underlying35 hi0 hz0 hz1 hz2 rfl (by decide) _ _ _ rfl (OW.out.alloc _) (wr.heap.size + 1) (some ⟨wr.heap.size, 0, none⟩) 1 1 [.int .i64 x] rfl (reads_newI wr 3 #[.int .i64 x] rfl) ?m1aa ?m2aa ?m3aa ?m4aa ?_)
          case m1aa => first | rfl | (intro u hu; simp at hu; subst hu; rfl)
          case m2aa => unfold maxLen; omega
          case m3aa => omega
          case m4aa => first | omega | (simp; omega)
          intro v2 w2 own2 gr2 _
          obtain ⟨o3, b3⟩ := OB.out 0 wr _ out OW.out BE.out v2 w2 x own2 gr2
          have R := Lib.hid (NXT.out v2 w2 _ _ ES.out o3 b3)
          clear own2 gr2 o3 b3
          go_wp2_with fail
          exact ⟨by simpa using R.out, by simp [RowKit.intOf]; omega⟩
        | false =>
          subst hd
          by_cases hnx : n < x
          · have ES : Hid (insS l n (k + 1) = (out ++ [n] ++ [x], true)) := by rw [Hid, SU]; unfold stpI; simp [hnx]
            clear SU
            go_wp2_with (at_builtin; refine wpList_append_any _ rfl (.tmp 28) (.tmp 30) 35 rfl w.heap.size 3 i0 _ 1 8 Try.underlying35 hi0 hz0 hz1 hz2 rfl (by decide) _ _ _ rfl (OW.out.alloc _) (wr.heap.size + 1) (some ⟨wr.heap.size, 0, none⟩) 1 1 [.int .i64 n] rfl (reads_newI wr 3 #[.int .i64 n] rfl) ?m1bb ?m2bb ?m3bb ?m4bb ?_)
            case m1bb => first | rfl | (intro u hu; simp at hu; subst hu; rfl)
            case m2bb => unfold maxLen; omega
            case m3bb => omega
            case m4bb => first | omega | (simp; omega)
            intro v2 w2 own2 gr2 _
            obtain ⟨o3, b3⟩ := OB.out 0 wr _ out OW.out BE.out v2 w2 n own2 gr2
            have OW2 := Lib.hid o3
            have hln2 : (out ++ [n]).length ≤ 2001 := by rw [List.length_append, List.length_singleton]; omega
            have BE2 := Lib.hid b3
            have bsz2 := b3.size
            have hcell := (BE2.out.cell (p := ⟨b1, o1 + k, none⟩))
            have e2 : w2.cell? ⟨b1, o1 + k, none⟩ = some (.int .i64 x) := EX.out w2 b3
            clear own2 gr2 o3 b3 e1 hcell
            go_wp2_with (at_builtin; refine wpList_append_any _ rfl (.tmp 32) (.tmp 37) 35 rfl w.heap.size 3 i0 _ 1 8 Try.underlying35 hi0 hz0 hz1 hz2 rfl (by decide) _ _ _ rfl (OW2.out.alloc _) (w2.heap.size + 1) (some ⟨w2.heap.size, 0, none⟩) 1 1 [.int .i64 x] rfl (reads_newI w2 3 #[.int .i64 x] rfl) ?m1cc ?m2cc ?m3cc ?m4cc ?_)
            case m1cc => first | rfl | (intro u hu; simp at hu; subst hu; rfl)
            case m2cc => unfold maxLen; omega
            case m3cc => omega
            case m4cc => first | omega | (simp; omega)
            intro v4 w4 own4 gr4 _
            have own4' : w4.ownsRow w.heap.size 3 1 v4 ((out ++ [n]).length + 1) ((out ++ [n]).flatMap cI ++ [.int .i64 x]) := by
              rw [List.length_append, List.length_singleton, List.flatMap_append, List.append_assoc]; exact own4
            obtain ⟨o5, b5⟩ := OB.out 0 w2 _ (out ++ [n]) OW2.out BE2.out v4 w4 x own4' gr4
            have R := Lib.hid (NXT.out v4 w4 _ _ ES.out o5 b5)
            clear own4 gr4 o5 b5
            go_wp2_with fail
            exact ⟨by simpa using R.out, by simp [RowKit.intOf]; omega⟩
          · have ES : Hid (insS l n (k + 1) = (out ++ [x], false)) := by rw [Hid, SU]; unfold stpI; simp [hnx]
            clear SU
            go_wp2_with (at_builtin; refine wpList_append_any _ rfl (.tmp 32) (.tmp 37) 35 rfl w.heap.size 3 i0 _ 1 8 Try.underlying35 hi0 hz0 hz1 hz2 rfl (by decide) _ _ _ rfl (OW.out.alloc _) (wr.heap.size + 1) (some ⟨wr.heap.size, 0, none⟩) 1 1 [.int .i64 x] rfl (reads_newI wr 3 #[.int .i64 x] rfl) ?m1dd ?m2dd ?m3dd ?m4dd ?_)
            case m1dd => first | rfl | (intro u hu; simp at hu; subst hu; rfl)
            case m2dd => unfold maxLen; omega
            case m3dd => omega
            case m4dd => first | omega | (simp; omega)
            intro v2 w2 own2 gr2 _
            obtain ⟨o3, b3⟩ := OB.out 0 wr _ out OW.out BE.out v2 w2 x own2 gr2
            have R := Lib.hid (NXT.out v2 w2 _ _ ES.out o3 b3)
            clear own2 gr2 o3 b3
            go_wp2_with fail
            exact ⟨by simpa using R.out, by simp [RowKit.intOf]; omega⟩
      · obtain rfl : k = l.length := by omega
        have ln := insS_len l n l.length
        generalize insS l n l.length = S at *
        obtain ⟨out, d⟩ := S
        simp only at ln own EE
        have hln : out.length ≤ 2000 := by omega
        clear own
        cases hd : d with
        | true =>
          subst hd
          have e2 : Hid (out = insA l n) := by rw [Hid]; have := EE.out; simpa using this
          have F := Lib.hid (FIN.out _ wr (by rw [← e2.out]; exact OW.out) bel)
          clear bel
          go_wp2_with fail
          go_ret
          first | exact F.out | (obtain ⟨a', c', h1, h2, h3, h4⟩ := F.out; exact ⟨a', ⟨c', h1⟩, h2, h3, h4⟩)
        | false =>
          subst hd
          have e2 : Hid (out ++ [n] = insA l n) := by rw [Hid]; have := EE.out; simpa using this
          clear bel
          go_wp2_with (at_builtin; refine wpList_append_any _ rfl (.tmp 41) (.tmp 43) 35 rfl w.heap.size 3 i0 _ 1 8 Try.underlying35 hi0 hz0 hz1 hz2 rfl (by decide) _ _ _ rfl (OW.out.alloc _) (wr.heap.size + 1) (some ⟨wr.heap.size, 0, none⟩) 1 1 [.int .i64 n] rfl (reads_newI wr 3 #[.int .i64 n] rfl) ?m1ee ?m2ee ?m3ee ?m4ee ?_)
          case m1ee => first | rfl | (intro u hu; simp at hu; subst hu; rfl)
          case m2ee => unfold maxLen; omega
          case m3ee => omega
          case m4ee => first | omega | (simp; omega)
          intro v2 w2 own2 gr2 _
          have o3 := own_snocI own2
          rw [e2.out] at o3
          have b3 := (BE.out.alloc BE.out.size (.cells #[.int .i64 n] 3)).grown gr2 (by have := BE.out.size; simp; omega) (fun g e => (OW.out.lt g e).1)
          have F := Lib.hid (FIN.out v2 w2 o3 b3)
          clear own2 gr2 o3 b3
          go_wp2_with fail
          go_ret
          first | exact F.out | (obtain ⟨a', c', h1, h2, h3, h4⟩ := F.out; exact ⟨a', ⟨c', h1⟩, h2, h3, h4⟩)
end Go.Proofs.Ytljojgpjgjfddaa
