/- The contracts of maps.Keys, slices.Sorted at ints; slices.Equal at ints; slices.Contains at bools. -/
import Derived.Test.YtljojgpjgjfddaaLSplit
import Derived.Test.YtljojgpjgjfddaaLaid
namespace Go.Proofs.Ytljojgpjgjfddaa
open Go.RowKit Go.Maps Go.Sort Go.Shelf
set_option linter.unusedVariables false

theorem sortsA (m : Nat) : AnyZI.SortsIn Try.prog Try.sortedA_ren Fence.wide m :=
  ⟨fun blk off cap ss W hH hblk hsz => callsIn_wide.2 (AnyM.slices_Sort_int Try.sortA blk off cap ss W hH hblk hsz),
   fun p cap W => callsIn_wide.2 (AnyM.slices_Sort_int_none Try.sortA p cap W)⟩
theorem keys_any (m : Option Nat) (w : World) :
    Calls Try.prog 85 #[.map m] w fun e w' => e = .returned (.func (.func 124) #[] #[.pointer (some ⟨w.heap.size, 0, none⟩)]) ∧ w.alloc (.cells #[.map m] 30) = w' :=
  (callsIn_wide (n := 5)).1 ((AnyZI.keys_in Try.keysA Fence.wide 5 trivial rfl m w).mono fun e w' h => ⟨h.1, h.2.symm⟩)

/-- The keys in ascending order. -/
def sortE (E : Ens) : List Int := (keysE E).mergeSort leI

theorem sorted_any (B : Nat) (m : Option Nat) (E : Ens) (w : World) (hB : B < w.heap.size) (hc : w.cell? ⟨B, 0, none⟩ = some (.map m)) (hm : IMV w m E) (hl : E.length ≤ 1000000) :
    Calls Try.prog 52 #[.func (.func 124) #[] #[.pointer (some ⟨B, 0, none⟩)]] w (IntsPost (sortE E) w) := by
  refine (callsIn_wide (n := 5)).1 ?_
  rcases hm with ⟨rfl, rfl⟩ | ⟨b, rfl, H, D, hown, hents⟩
  · have hseq : SeqGives Fence.wide 2 Try.prog 124 #[.pointer (some ⟨B, 0, none⟩)] encZ (fun ss : List Int => ss = []) 0 w :=
      AnyZI.keys_gives_nil (ρ := Try.keysA_ren) { Try.keysA with } Fence.wide _ trivial rfl B w hB hc
    have cS := AnyZI.sorted_in Try.sortedA Fence.wide 5 trivial trivial trivial trivial rfl (by omega) (sortsA _) (enters_of Try.func36 (by kernel_rfl) rfl) 124 #[.pointer (some ⟨B, 0, none⟩)] trivial (enters_of Try.func124 (by kernel_rfl) rfl) _ 0 (Nat.zero_le _) (by omega) _ hseq
    refine cS.mono ?_
    rintro e w' ⟨v, ss, rfl, rfl, hrow, hnil, hb⟩
    have e0 : sortE [] = [] := by simp [sortE, keysE]
    refine ⟨v, rfl, ?_, hb⟩
    rw [e0]
    simp only [List.mergeSort_nil] at hrow
    exact hrow
  · have hsz := hents.size_
    have hseq : SeqGives Fence.wide 2 Try.prog 124 #[.pointer (some ⟨B, 0, none⟩)] encZ (fun ss => ss.Perm (intKeys D)) (Maps.size D) w :=
      AnyZI.keys_gives (ρ := Try.keysA_ren) { Try.keysA with } Fence.wide _ trivial rfl (by omega) B b _ D w hB hc hown
    have cS := AnyZI.sorted_in Try.sortedA Fence.wide 5 trivial trivial trivial trivial rfl (by omega) (sortsA _) (enters_of Try.func36 (by kernel_rfl) rfl) 124 #[.pointer (some ⟨B, 0, none⟩)] trivial (enters_of Try.func124 (by kernel_rfl) rfl) _ _ (by unfold maxLen; omega) (by omega) _ hseq
    refine cS.mono ?_
    rintro e w' ⟨v, ss, rfl, hS, hrow, hnil, hb⟩
    have hp : ss.Perm (keysE E) := hS.trans (IMap.keys Try.underlying3 hown hents).symm
    have e1 : ss.mergeSort leI = sortE E := mergeSort_of_perm_i hp
    refine ⟨v, rfl, ?_, hb⟩
    have e2 : ss.length = (sortE E).length := by rw [← e1, List.length_mergeSort]
    rw [← e2, cI_map, ← e1]
    exact hrow

/-! slices.Equal at ints. -/
def RelEq (l1 l2 : List Int) (w : World) (i : Value) (wr : World) : Prop :=
  ∃ k : Nat, k ≤ l1.length ∧ i = .int .i64 k ∧ l1.take k = l2.take k ∧ Below w.heap.size w wr
theorem take_eq_snoc {α : Type} (d : α) {l1 l2 : List α} {k : Nat} (h : l1.take k = l2.take k) (h1 : k < l1.length) (h2 : k < l2.length) (e : l1.getD k d = l2.getD k d) : l1.take (k + 1) = l2.take (k + 1) := by
  rw [take_snocG d l1 k h1, take_snocG d l2 k h2, h, e]
set_option maxHeartbeats 1000000 in
theorem eqI_any (l1 l2 : List Int) (a1 a2 : Option Addr) (c1 c2 : Nat) (w : World) (hl : l1.length ≤ 2000000) (hl2 : l2.length ≤ 2000000) (h1 : IsRec 1 cI 0 w a1 l1.length l1) (h2 : IsRec 1 cI 0 w a2 l2.length l2) :
    Calls Try.prog 84 #[.slice a1 l1.length c1, .slice a2 l2.length c2] w fun e w' => e = .returned (.bool (decide (l1 = l2))) ∧ Below w.heap.size w w' := by
  by_cases hlen : l1.length = l2.length
  · have q0 : ((l1.length : Int) != (l2.length : Int)) = false := by simp [hlen]
    have HL := Lib.hid hlen
    have H1 := Lib.hid h1
    have H2 := Lib.hid h2
    clear hlen h1 h2
    go_enter Try.func84, Try.ntmps84
    go_wp2_with fail
    go_loopw [13] (fun i wr => RelEq l1 l2 w i wr) (fun i _ => l1.length - (RowKit.intOf i).toNat)
    case atStart => exact ⟨0, Nat.zero_le _, rfl, rfl, Below.refl _ _⟩
    case round =>
      obtain ⟨k, hk, rfl, heq, bel⟩ := hrel
      have HE := Lib.hid heq
      have HLL := HL.out
      clear heq
      by_cases hkr : k < l1.length
      · have hkr2 : k < l2.length := by omega
        obtain ⟨b1, o1, ha1, hb1, hm1, e1⟩ := int_at (H1.out.below (Nat.le_refl _) bel) k hkr
        obtain ⟨b2, o2, ha2, hb2, hm2, e2⟩ := int_at (H2.out.below (Nat.le_refl _) bel) k hkr2
        subst ha1
        subst ha2
        have SN := Lib.hid (fun e => take_eq_snoc (0 : Int) HE.out hkr hkr2 e)
        have NE : Hid (l1.getD k 0 ≠ l2.getD k 0 → decide (l1 = l2) = false) := fun h => decide_eq_false (fun e => h (by rw [e]))
        generalize l1.getD k 0 = x at *
        generalize l2.getD k 0 = y at *
        clear hm1 hm2 HLL
        have i1 : (0 : Int) ≤ (k : Int) := by omega
        have i2 : (k : Int) < (l1.length : Int) := by omega
        have i3 : (k : Int) < (l2.length : Int) := by omega
        by_cases hxy : x = y
        · have S2 := Lib.hid (SN.out hxy)
          have q1 : (x != y) = false := by simp [hxy]
          clear SN NE hxy
          go_wp2_with fail
          go_quiet (fail)
          go_wp2_with fail
          exact ⟨⟨k + 1, by omega, by simp, S2.out, below_drewN bel _⟩, by simp [RowKit.intOf]; omega⟩
        · have S2 := Lib.hid (NE.out hxy)
          have q1 : (x != y) = true := by simp [hxy]
          clear SN NE hxy
          go_wp2_with fail
          go_quiet (fail)
          go_wp2_with fail
          go_ret
          exact ⟨by rw [S2.out]; rfl, below_drewN bel _⟩
      · obtain rfl : k = l1.length := by omega
        have F : Hid (decide (l1 = l2) = true) := by
          rw [Hid, decide_eq_true_iff]
          have := HE.out
          rw [List.take_length] at this
          rw [List.take_of_length_le (by omega)] at this
          exact this
        clear HLL
        go_wp2_with fail
        go_ret
        exact ⟨by rw [F.out]; rfl, bel⟩
  · have q0 : ((l1.length : Int) != (l2.length : Int)) = true := by simp; omega
    have F : Hid (decide (l1 = l2) = false) := decide_eq_false (fun e => hlen (by rw [e]))
    clear hlen
    go_enter Try.func84, Try.ntmps84
    go_wp2_with fail
    go_ret
    exact ⟨by rw [F.out]; rfl, Below.refl _ _⟩

/-! slices.Contains at bools, asked for false. -/
def cB (b : Bool) : List Value := [.bool b]
theorem bool_at {w : World} {A : Option Addr} {len : Nat} {l : List Bool} (h : IsRec 1 cB false w A len l) (k : Nat) (hk : k < len) :
    ∃ b off, A = some ⟨b, off, none⟩ ∧ b < w.heap.size ∧ l.getD k false ∈ l ∧ w.cell? ⟨b, off + k, none⟩ = some (.bool (l.getD k false)) := by
  obtain ⟨b, off, ha, hb, hc⟩ := h.2 (by omega)
  have hl : k < l.length := by rw [h.1]; exact hk
  refine ⟨b, off, ha, hb, by simp [List.getD, hl], ?_⟩
  have := hc k 0 hk (by omega)
  simpa [cB] using this
def RelIB (l : List Bool) (i : Value) : Prop := ∃ k : Nat, k ≤ l.length ∧ i = .int .i64 k ∧ ∀ x ∈ l.take k, x = true
def IdxFalse (l : List Bool) (w : World) (e : Ending) (w' : World) : Prop := w = w' ∧ ∃ n : Int, e = .returned (.int .i64 n) ∧ decide (0 ≤ n) = l.contains false
set_option maxHeartbeats 1000000 in
theorem idxB_any (l : List Bool) (a : Option Addr) (c : Nat) (w : World) (hl : l.length ≤ 1000000) (h : IsRec 1 cB false w a l.length l) :
    Calls Try.prog 148 #[.slice a l.length c, .bool false] w (IdxFalse l w) := by
  have H := Lib.hid h
  clear h
  go_enter Try.func148, Try.ntmps148
  go_wp2_with fail
  go_loop [8] (fun i => RelIB l i) (fun i => l.length - (RowKit.intOf i).toNat)
  case atStart => exact ⟨0, Nat.zero_le _, rfl, by simp⟩
  case round =>
    obtain ⟨k, hk, rfl, hall⟩ := hrel
    have HA := Lib.hid hall
    clear hall
    by_cases hkr : k < l.length
    · obtain ⟨b1, o1, ha1, hb1, hm1, e1⟩ := bool_at H.out k hkr
      have HS := Lib.hid (take_snocG false l k hkr)
      subst ha1
      generalize l.getD k false = x at *
      cases x with
      | true =>
        have R : Hid (RelIB l (.int .i64 ((k + 1 : Nat) : Int))) := ⟨k + 1, by omega, rfl, fun y hy => by
          rw [HS.out, List.mem_append] at hy
          rcases hy with hy | hy
          · exact HA.out y hy
          · simpa using hy⟩
        clear hm1
        go_wp2_with fail
        exact ⟨by simpa using R.out, by simp [RowKit.intOf]; omega⟩
      | false =>
        have F : Hid (IdxFalse l w (.returned (.int .i64 k)) w) := ⟨rfl, k, rfl, by rw [decide_eq_true (by omega)]; exact (List.contains_iff_mem.2 hm1).symm⟩
        clear hm1
        go_wp2_with fail
        go_ret
        exact F.out
    · obtain rfl : k = l.length := by omega
      have F : Hid (IdxFalse l w (.returned (.int .i64 (-1))) w) := by
        refine ⟨rfl, -1, rfl, ?_⟩
        have h2 := HA.out
        rw [List.take_length] at h2
        have : l.contains false = false := by
          rw [Bool.eq_false_iff]
          intro h3
          have := h2 false (List.contains_iff_mem.1 h3)
          cases this
        rw [this]; rfl
      go_wp2_with fail
      go_ret
      exact F.out
theorem contB_any (l : List Bool) (a : Option Addr) (c : Nat) (w : World) (hl : l.length ≤ 1000000) (h : IsRec 1 cB false w a l.length l) :
    Calls Try.prog 123 #[.slice a l.length c, .bool false] w fun e w' => e = .returned (.bool (l.contains false)) ∧ w = w' := by
  have H := Lib.hid h
  clear h
  go_enter Try.func123, Try.ntmps123
  go_wp2_with fail
  refine (idxB_any l a c w hl H.out).mono ?_
  rintro e w' ⟨rfl, n, rfl, hn⟩
  have HN := Lib.hid hn
  clear hn
  go_wp2_with fail
  go_ret
  refine ⟨?_, rfl⟩
  rw [← HN.out]
  rfl
end Go.Proofs.Ytljojgpjgjfddaa
