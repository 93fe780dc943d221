/- The contract of fairlinkref22.Exact. -/
import Derived.Test.YtjhbjifhponciaaLRef
namespace Go.Proofs.Ytjhbjifhponciaa
open Go.RowKit Go.Maps
set_option linter.unusedVariables false

def atTo (cs : List Cb) (node : Int) (k : Nat) : List Nat := (List.range k).filter fun c => atR cs c node
def exactE (cs : List Cb) (l : List Int) (node : Int) : Int :=
  if ((atTo cs node (2 * cs.length)).all fun c => l.any fun x => x == (c : Int)) = false then 7 else if (atTo cs node (2 * cs.length)).length < l.length then 8 else 0
theorem atTo_yes {cs : List Cb} {node : Int} {k : Nat} (h : atR cs k node = true) : atTo cs node (k + 1) = atTo cs node k ++ [k] := by
  unfold atTo; rw [List.range_succ, List.filter_append, List.filter_cons, if_pos h]; rfl
theorem atTo_no {cs : List Cb} {node : Int} {k : Nat} (h : atR cs k node = false) : atTo cs node (k + 1) = atTo cs node k := by
  unfold atTo; rw [List.range_succ, List.filter_append, List.filter_cons, if_neg (by rw [h]; simp)]; simp
theorem atTo_le (cs : List Cb) (node : Int) (k : Nat) : (atTo cs node k).length ≤ k := by
  unfold atTo
  have := List.length_filter_le (fun c : Nat => atR cs c node) (List.range k)
  rw [List.length_range] at this; exact this
theorem atTo_mem {cs : List Cb} {node : Int} {k n : Nat} (h : atR cs k node = true) (hk : k < n) : k ∈ atTo cs node n := List.mem_filter.2 ⟨List.mem_range.2 hk, h⟩
def RelX1 (cs : List Cb) (l : List Int) (node : Int) (w1 : World) (m i : Value) (wr : World) : Prop :=
  ∃ k : Nat, k ≤ 2 * cs.length ∧ i = .int .i64 k ∧ m = .int .i64 ((atTo cs node k).length : Nat) ∧ ((atTo cs node k).all fun c => l.any fun x => x == (c : Int)) = true ∧ Below w1.heap.size w1 wr
def RelX2 (l : List Int) (c : Nat) (f i : Value) : Prop := ∃ j : Nat, j ≤ l.length ∧ i = .int .i64 j ∧ f = .bool ((l.take j).any fun x => x == (c : Int))

set_option maxRecDepth 100000 in
set_option maxHeartbeats 2000000 in
theorem exact_any (cs : List Cb) (l : List Int) (An Ac Al : Option Addr) (ln cn cc cl : Nat) (node : Int) (w : World) (hl : cs.length ≤ 1000000) (hll : l.length ≤ 1000000) (h : IsRec 6 cC cb0 w Ac cs.length cs) (h2 : IsRec 1 cI 0 w Al l.length l) :
    Calls Try.prog 17 #[.agg #[.slice An ln cn, .slice Ac cs.length cc], .slice Al l.length cl, .int .i64 node] w fun e w' => e = .returned (.int .i64 (exactE cs l node)) ∧ Below w.heap.size w w' := by
  obtain ⟨w1, hw1⟩ : ∃ w1 : World, w.alloc (.cells #[.slice An ln cn, .slice Ac cs.length cc] 25) = w1 := ⟨_, rfl⟩
  have s0 : w1.cell? ⟨w.heap.size, 0, none⟩ = some (.slice An ln cn) := by rw [← hw1]; simp [go_sem]
  have s1 : w1.cell? ⟨w.heap.size, 1, none⟩ = some (.slice Ac cs.length cc) := by rw [← hw1]; simp [go_sem]
  have sz1 : w.heap.size < w1.heap.size := by rw [← hw1]; simp
  have BW0 : Below w.heap.size w w1 := by rw [← hw1]; exact (Below.refl _ _).alloc (Nat.le_refl _) _
  have BW := Lib.hid BW0
  have H1 := Lib.hid (h.below (Nat.le_refl _) BW0)
  have L1 := Lib.hid (h2.below (Nat.le_refl _) BW0)
  have HW1 := Lib.hid hw1
  have KC : Hid (∀ w', Below w1.heap.size w1 w' → w'.cell? ⟨w.heap.size, 0, none⟩ = some (.slice An ln cn) ∧ w'.cell? ⟨w.heap.size, 1, none⟩ = some (.slice Ac cs.length cc) ∧ w.heap.size < w'.heap.size ∧ Below w.heap.size w w') :=
    fun w' hb => ⟨(hb.cell (by exact sz1)).trans s0, (hb.cell (by exact sz1)).trans s1, by have := hb.size; omega, BW0.trans (hb.mono (by omega))⟩
  clear h h2 hw1 BW0
  go_enter Try.func17, Try.ntmps17
  go_wp2_with fail
  rw [HW1.out]
  go_loopw [7, 8] (fun m i wr => RelX1 cs l node w1 m i wr) (fun _ i _ => 2 * cs.length - (RowKit.intOf i).toNat)
  case atStart => exact ⟨0, Nat.zero_le _, rfl, rfl, rfl, Below.refl _ _⟩
  case round =>
    clear s0 s1
    obtain ⟨k, hk, rfl, rfl, hall, bel⟩ := hrel
    have HA := Lib.hid hall
    have hle := atTo_le cs node k
    have BE := Lib.hid bel
    clear hall
    obtain ⟨u0, u1, sz2, bw2⟩ := KC.out wr bel
    have BW2 := Lib.hid bw2
    clear bw2 bel
    by_cases hkr : k < 2 * cs.length
    · have HC := Lib.hid (H1.out.below (Nat.le_refl _) BE.out)
      cases hat : atR cs k node with
      | false =>
        have AN := Lib.hid (atTo_no hat)
        have HAT := Lib.hid hat
        clear hat
        go_wp2_with fail
        refine (rat_any cs An Ac ln cn cc k node _ hl HC.out _ HAT.out).mono ?_
        rintro e w3 ⟨rfl, bel3⟩
        have R : Hid (RelX1 cs l node w1 (.int .i64 ((atTo cs node k).length : Nat)) (.int .i64 ((k + 1 : Nat) : Int)) w3) :=
          ⟨k + 1, by omega, rfl, by rw [AN.out], by rw [AN.out]; exact HA.out, BE.out.trans (bel3.mono BE.out.size)⟩
        clear bel3
        generalize (atTo cs node k).length = mm at *
        go_wp2_with fail
        exact ⟨by simpa using R.out, by simp [RowKit.intOf]; omega⟩
      | true =>
        have AY := Lib.hid (atTo_yes hat)
        have MEM := Lib.hid (atTo_mem hat hkr)
        have HAT := Lib.hid hat
        clear hat
        go_wp2_with fail
        refine (rat_any cs An Ac ln cn cc k node _ hl HC.out _ HAT.out).mono ?_
        rintro e w3 ⟨rfl, bel3⟩
        have BE3 := Lib.hid (BE.out.trans (bel3.mono BE.out.size))
        have L3 := Lib.hid (L1.out.below (Nat.le_refl _) BE3.out)
        have BF3 := Lib.hid (BW2.out.trans (bel3.mono (by omega)))
        clear bel3 u0 u1
        generalize hmm : (atTo cs node k).length = mm at *
        have HMM := Lib.hid hmm
        clear hmm
        go_wp2_with fail
        go_loop [9, 10] (fun f i => RelX2 l k f i) (fun _ i => l.length - (RowKit.intOf i).toNat)
        case atStart => exact ⟨0, Nat.zero_le _, rfl, rfl⟩
        case round =>
          obtain ⟨j, hj, rfl, rfl⟩ := hrel
          by_cases hjr : j < l.length
          · obtain ⟨bl, ol, ha, hbl, hmem, c0⟩ := int_at L3.out j hjr
            have AS := Lib.hid (any_take_snoc (fun x => x == (k : Int)) 0 l j hjr)
            generalize l.getD j 0 = x at *
            subst ha
            clear hmem
            cases hf : ((l.take j).any fun x => x == (k : Int)) with
            | true =>
              have R : Hid (RelX2 l k (.bool true) (.int .i64 ((j + 1 : Nat) : Int))) := ⟨j + 1, by omega, rfl, by rw [AS.out, hf]; rfl⟩
              clear AS hf
              go_wp2_with fail
              exact ⟨by simpa using R.out, by simp [RowKit.intOf]; omega⟩
            | false =>
              have R : Hid (RelX2 l k (.bool (x == (k : Int))) (.int .i64 ((j + 1 : Nat) : Int))) := ⟨j + 1, by omega, rfl, by rw [AS.out, hf]; rfl⟩
              clear AS hf
              go_wp2_with fail
              exact ⟨by simpa using R.out, by simp [RowKit.intOf]; omega⟩
          · obtain rfl : j = l.length := by omega
            rw [List.take_length]
            cases hf : (l.any fun x => x == (k : Int)) with
            | true =>
              have R : Hid (RelX1 cs l node w1 (.int .i64 ((mm + 1 : Nat) : Int)) (.int .i64 ((k + 1 : Nat) : Int)) w3) := by
                refine ⟨k + 1, by omega, rfl, by rw [AY.out, List.length_append, HMM.out]; rfl, ?_, BE3.out⟩
                rw [AY.out, List.all_append, HA.out]; simp [hf]
              clear AY hf HA MEM
              go_wp2_with fail
              exact ⟨by simpa using R.out, by simp [RowKit.intOf]; omega⟩
            | false =>
              have FIN : Hid (exactE cs l node = 7) := by
                rw [Hid]; unfold exactE
                rw [if_pos]
                rw [List.all_eq_false]
                exact ⟨k, MEM.out, by rw [hf]; simp⟩
              clear AY hf HA MEM
              go_wp2_with fail
              go_ret
              exact ⟨by rw [FIN.out]; rfl, BF3.out⟩
    · obtain rfl : k = 2 * cs.length := by omega
      have NF : Hid (exactE cs l node = if (atTo cs node (2 * cs.length)).length < l.length then 8 else 0) := by
        rw [Hid]; unfold exactE; rw [if_neg (by rw [HA.out]; simp)]
      generalize (atTo cs node (2 * cs.length)).length = mm at *
      by_cases hgt : mm < l.length
      · rw [if_pos hgt] at NF
        clear HA
        go_wp2_with fail
        go_ret
        exact ⟨by rw [NF.out]; rfl, BW2.out⟩
      · rw [if_neg hgt] at NF
        have hgt' : l.length ≤ mm := by omega
        clear HA hgt
        go_wp2_with fail
        go_ret
        exact ⟨by rw [NF.out]; rfl, BW2.out⟩
end Go.Proofs.Ytjhbjifhponciaa
