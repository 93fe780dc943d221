/- The walk of the law EpochCounts. -/
import Derived.Test.YtkdgfjjljokkhaaDoStep
import Derived.Test.YtkdgfjjljokkhaaFrame
namespace Go.Proofs.Ytkdgfjjljokkhaa.epochCountsW
open Go.RowKit
set_option linter.unusedVariables false

/-- What EpochCounts asks of one act. -/
theorem law_else {m : Nat} {k e n x y c n' x' y' : Int} (h : Inv m n x y) (s : Step k e n x y c n' x' y') (hk : k ≠ 0 ∧ k ≠ 1) :
    (c = 0 ∧ n' = n + 1 ∧ alv n x y (n - 1) = 0 ∧ alv n' x' y' n = alv n x y n ∧ alv n' x' y' (n + 1) = 0) ∨ (c ≠ 0 ∧ n' = n ∧ x' = x ∧ y' = y) := by
  obtain ⟨a, b, c, d, e', f, g⟩ := h
  rcases s with ⟨h, -⟩ | ⟨h, -⟩ | ⟨h, -⟩ | ⟨h, -⟩ | ⟨h, -⟩ | ⟨h, -⟩ | ⟨-, -, rfl, rfl, rfl, rfl⟩ | ⟨-, -, rfl, rfl, rfl, rfl⟩ | ⟨-, ⟨hz, hn⟩, rfl, rfl, rfl, rfl⟩
  case inr.inr.inr.inr.inr.inr.inl => exact .inr ⟨by omega, rfl, rfl, rfl⟩
  case inr.inr.inr.inr.inr.inr.inr.inl => exact .inr ⟨by omega, rfl, rfl, rfl⟩
  case inr.inr.inr.inr.inr.inr.inr.inr =>
    have h1 := alv_cases n x' y' (n - 1)
    have h2 := alv_cases (n + 1) x' y' n
    have h3 := alv_cases n x' y' n
    have h4 := alv_cases (n + 1) x' y' (n + 1)
    exact .inl ⟨rfl, rfl, hz, by omega, by omega⟩
  all_goals omega

def inc (k c : Int) : Int := if c = 0 then 1 - 2 * k else 0
theorem law_01 {m : Nat} {k e n x y c n' x' y' : Int} (h : Inv m n x y) (s : Step k e n x y c n' x' y') (hk : k = 0 ∨ k = 1) :
    n' = n ∧ 0 ≤ alv n' x' y' e ∧ (e = n → alv n' x' y' n = alv n x y n + inc k c) ∧ (e ≠ n → alv n' x' y' n = alv n x y n) ∧
      (e = n - 1 → alv n' x' y' (n - 1) = alv n x y (n - 1) + inc k c) ∧ (e ≠ n - 1 → alv n' x' y' (n - 1) = alv n x y (n - 1)) := by
  have hi := h.step s
  refine ⟨?_, (alv_nonneg hi e).1, ?_⟩
  · rcases s with ⟨-, -, -, rfl, rfl, rfl⟩ | ⟨-, -, -, rfl, rfl, rfl⟩ | ⟨-, -, -, rfl, rfl, rfl⟩ | ⟨-, -, -, rfl, rfl, rfl⟩ | ⟨-, -, -, rfl, rfl, rfl⟩ | ⟨-, -, -, rfl, rfl, rfl⟩ | ⟨-, -, -, rfl, rfl, rfl⟩ | ⟨-, -, -, rfl, rfl, rfl⟩ | ⟨h1, -⟩
    all_goals first | rfl | omega
  obtain ⟨a, b, c, d, e', f, g⟩ := h
  clear hi
  unfold inc
  rcases s with ⟨-, he, rfl, rfl, rfl, rfl⟩ | ⟨-, he, rfl, rfl, rfl, rfl⟩ | ⟨rfl, he, rfl, rfl, rfl, rfl⟩ | ⟨-, he, rfl, rfl, rfl, rfl⟩ | ⟨rfl, he, rfl, rfl, rfl, rfl⟩ | ⟨rfl, he, rfl, rfl, rfl, rfl⟩ | ⟨h1, -⟩ | ⟨h1, -⟩ | ⟨h1, -⟩
  case inr.inr.inl =>
    subst he
    have h1 := alv_cases e x y (e - 1)
    have h3 := alv_cases e x y e
    rcases up_cases e x y 1 with ⟨p, q, r⟩ | ⟨p, q, r⟩ <;> rw [q, r]
    · have h2 := alv_cases e (x + 1) y (e - 1)
      have h4 := alv_cases e (x + 1) y e
      simp only [if_true]
      omega
    · have h2 := alv_cases e x (y + 1) (e - 1)
      have h4 := alv_cases e x (y + 1) e
      simp only [if_true]
      omega
  case inr.inr.inr.inr.inr.inl =>
    have h1 := alv_cases n' x y (n' - 1)
    have h3 := alv_cases n' x y n'
    have h5 := alv_cases n' x y e
    rcases up_cases e x y (-1) with ⟨p, q, r⟩ | ⟨p, q, r⟩ <;> rw [q, r]
    · have h2 := alv_cases n' (x + -1) y (n' - 1)
      have h4 := alv_cases n' (x + -1) y n'
      simp only [if_true]
      omega
    · have h2 := alv_cases n' x (y + -1) (n' - 1)
      have h4 := alv_cases n' x (y + -1) n'
      simp only [if_true]
      omega
  all_goals first | omega | (rw [if_neg (by omega)]; omega)

def Rel (len : Nat) (w : World) (g : Nat) (i : Value) (wr : World) : Prop :=
  ∃ k : Nat, k ≤ len ∧ i = .int .i64 k ∧ ∃ n x y, Bk wr g n x y ∧ Inv k n x y ∧ Below w.heap.size w wr

set_option maxRecDepth 100000 in
set_option maxHeartbeats 4000000 in
theorem walk (a0 : Option Addr) (len0 cap0 : Nat) (z0 : List (List Int)) (w : World) (w0 : IsStructs 2 w a0 len0 z0) :
    Calls Try.prog 5 #[.slice a0 len0 cap0] w fun e w' => e = .returned (.bool true) ∧ Below w.heap.size w w' := by
  obtain ⟨hm, hzl, hwf, hcells⟩ := w0
  unfold maxLen at hm
  by_cases hlen : 60 < len0
  · go_enter Try.func5, Try.ntmps5
    go_wp2_with fail
    refine (awake_any _).mono ?_
    rintro r w1 ⟨rfl, l1⟩
    go_wp2
    go_ret
    exact ⟨rfl, l1⟩
  have HZ := Lib.hid hzl
  have HW := Lib.hid hwf
  have HC := Lib.hid hcells
  clear hzl hwf hcells
  go_enter Try.func5, Try.ntmps5
  go_wp2_with fail
  refine (awake_any _).mono ?_
  rintro r w1 ⟨rfl, l1⟩
  go_wp2_with fail
  refine (new_bk _).mono ?_
  rintro r w2 ⟨g, rfl, hg, b2, l2⟩
  have hg0 : w.heap.size ≤ g := Nat.le_trans l1.size hg
  have l3 : Below w.heap.size w w2 := l1.trans (l2.mono l1.size)
  clear l1 l2 hg
  go_wp2_with fail
  go_loopw [19] (fun i wr => Rel len0 w g i wr) (fun i _ => len0 - (intOf i).toNat)
  case atStart => exact ⟨0, Nat.zero_le _, rfl, 0, 0, 0, b2, Inv.start, l3⟩
  case round =>
    clear b2 l3
    obtain ⟨k, hk, rfl, n, x, y, b, inv, bel⟩ := hrel
    by_cases hlt : k < len0
    · obtain ⟨bb, off, ha0, hbb, hc⟩ := HC.out (by omega)
      have c0 : wr.cell? ⟨bb, off + k * 2, none⟩ = some (.int .i64 ((z0.getD k []).getD 0 0)) := (bel.cell (p := ⟨bb, off + k * 2, none⟩) hbb).trans (hc k 0 hlt (by omega))
      have c1 : wr.cell? ⟨bb, off + k * 2 + 1, none⟩ = some (.int .i64 ((z0.getD k []).getD 1 0)) := (bel.cell (p := ⟨bb, off + k * 2 + 1, none⟩) hbb).trans (hc k 1 hlt (by omega))
      clear hc
      subst ha0
      generalize (z0.getD k []).getD 0 0 = kk at *
      generalize (z0.getD k []).getD 1 0 = ee at *
      clear HC HZ HW
      obtain ⟨wa, hwa⟩ : ∃ wa, wa = wr.alloc (.cells #[.int .i64 kk, .int .i64 ee] 30) := ⟨_, rfl⟩
      have ba : Bk wa g n x y := hwa ▸ Blk.alloc b _
      have ta : Blk wa wr.heap.size 30 #[.int .i64 kk, .int .i64 ee] := hwa ▸ Blk.new _ _ _
      have ct0 : wa.cell? ⟨wr.heap.size, 0, none⟩ = some (.int .i64 kk) := ta.cell 0
      have ct1 : wa.cell? ⟨wr.heap.size, 0 + 1, none⟩ = some (.int .i64 ee) := ta.cell 1
      have bela : Below w.heap.size w wa := hwa ▸ bel.alloc bel.size _
      have hgt : g < wr.heap.size := b.lt
      have HWA := Lib.hid hwa
      clear hwa
      go_wp2_with fail
      rw [← HWA.out]
      clear HWA c0 c1 bel b
      generalize wr.heap.size = t at *
      obtain ⟨n0, n1, _, _, _, _, _⟩ := id inv
      have nn : n ≤ 60 := by omega
      go_wp2_with (first | (go_at_call 17; refine (now_any g n x y _ ba).mono ?_; rintro r w' ⟨rfl, rfl⟩) | (go_at_call 18; refine (alive_any g n x y _ _ ba (by omega) (by omega)).mono ?_; rintro r w' ⟨rfl, rfl⟩))
      refine (do_any k kk ee n x y g _ ba inv (by omega)).mono ?_
      rintro r w2 ⟨c, n', x', y', rfl, st, b2, gr⟩
      have t2 := ta.grown gr (by simp; omega)
      have bel2 := below_step bela gr hg0 (Nat.le_refl _)
      clear ct0 ct1
      have ct0 : w2.cell? ⟨t, 0, none⟩ = some (.int .i64 kk) := t2.cell 0
      have ct1 : w2.cell? ⟨t, 0 + 1, none⟩ = some (.int .i64 ee) := t2.cell 1
      have inv' := inv.step st
      clear t2 gr ba bela ta
      have fin : Rel len0 w g (.int .i64 ((k + 1 : Nat) : Int)) w2 := ⟨k + 1, by omega, rfl, n', x', y', b2, inv', bel2⟩
      have m0 : 0 ≤ n' ∧ n' ≤ 61 := ⟨inv'.n0, by have := inv'.n1; omega⟩
      obtain ⟨m0, m1⟩ := m0
      by_cases hk : kk = 0 ∨ kk = 1
      · have law := law_01 inv st hk
        have ax := alv_nonneg inv n
        have ay := alv_nonneg inv (n - 1)
        obtain ⟨rfl, p0, px, px', py, py'⟩ := law
        unfold inc at px py
        have hkk : (kk = 0 ∧ (kk != 0) = false) ∨ (kk = 1 ∧ (kk != 1) = false ∧ (kk != 0) = true) := by
          rcases hk with rfl | rfl
          · exact .inl ⟨rfl, rfl⟩
          · exact .inr ⟨rfl, rfl, rfl⟩
        clear hk st inv inv'
        have hcc : (c = 0 ∧ (c == 0) = true) ∨ (c ≠ 0 ∧ (c == 0) = false) := by
          by_cases h : c = 0
          · exact .inl ⟨h, by rw [h]; rfl⟩
          · exact .inr ⟨h, by rw [beq_eq_false_iff_ne]; exact h⟩
        by_cases e1 : ee = n'
        · subst e1
          have px := px rfl
          have py := py' (by omega)
          clear px' py'
          rcases hkk with ⟨rfl, k0⟩ | ⟨rfl, k1, k0⟩ <;> rcases hcc with ⟨rfl, c0⟩ | ⟨hc, c0⟩
          all_goals
            first | rw [if_pos rfl] at px | rw [if_neg hc] at px
            try clear hc
            go_wp2_with (first | (go_at_call 17; refine (now_any g _ x' y' _ b2).mono ?_; rintro r w' ⟨rfl, rfl⟩) | (go_at_call 18; refine (alive_any g _ x' y' _ _ b2 (by omega) (by omega)).mono ?_; rintro r w' ⟨rfl, rfl⟩))
            exact ⟨by simpa using fin, by simp [intOf]; omega⟩
        · have q1 : (ee == n') = false := by rw [beq_eq_false_iff_ne]; exact e1
          have px := px' e1
          clear px'
          by_cases e2 : ee = n' - 1
          · subst e2
            have py := py rfl
            clear py' e1
            rcases hkk with ⟨rfl, k0⟩ | ⟨rfl, k1, k0⟩ <;> rcases hcc with ⟨rfl, c0⟩ | ⟨hc, c0⟩
            all_goals
              first | rw [if_pos rfl] at py | rw [if_neg hc] at py
              try clear hc
              go_wp2_with (first | (go_at_call 17; refine (now_any g _ x' y' _ b2).mono ?_; rintro r w' ⟨rfl, rfl⟩) | (go_at_call 18; refine (alive_any g _ x' y' _ _ b2 (by omega) (by omega)).mono ?_; rintro r w' ⟨rfl, rfl⟩))
              exact ⟨by simpa using fin, by simp [intOf]; omega⟩
          · have q2 : (ee == n' - 1) = false := by rw [beq_eq_false_iff_ne]; exact e2
            have py := py' e2
            clear py' e1 e2
            rcases hkk with ⟨rfl, k0⟩ | ⟨rfl, k1, k0⟩ <;> rcases hcc with ⟨rfl, c0⟩ | ⟨hc, c0⟩
            all_goals
              try clear hc
              go_wp2_with (first | (go_at_call 17; refine (now_any g _ x' y' _ b2).mono ?_; rintro r w' ⟨rfl, rfl⟩) | (go_at_call 18; refine (alive_any g _ x' y' _ _ b2 (by omega) (by omega)).mono ?_; rintro r w' ⟨rfl, rfl⟩))
              exact ⟨by simpa using fin, by simp [intOf]; omega⟩
      · have law := law_else inv st (by omega)
        rcases law with ⟨rfl, rfl, l1, l2, l3⟩ | ⟨hc, rfl, rfl, rfl⟩
        · have hk0 : (kk != 0) = true := by rw [bne_iff_ne]; omega
          have hk1 : (kk != 1) = true := by rw [bne_iff_ne]; omega
          clear hk st inv inv'
          go_wp2_with (first | (go_at_call 17; refine (now_any g _ x' y' _ b2).mono ?_; rintro r w' ⟨rfl, rfl⟩) | (go_at_call 18; refine (alive_any g _ x' y' _ _ b2 (by omega) (by omega)).mono ?_; rintro r w' ⟨rfl, rfl⟩))
          exact ⟨by simpa using fin, by simp [intOf]; omega⟩
        · have hk0 : (kk != 0) = true := by rw [bne_iff_ne]; omega
          have hk1 : (kk != 1) = true := by rw [bne_iff_ne]; omega
          have hc0 : (c == 0) = false := by rw [beq_eq_false_iff_ne]; exact hc
          have hc1 : (c != 0) = true := by rw [bne_iff_ne]; exact hc
          clear hk st inv inv' hc
          go_wp2_with (first | (go_at_call 17; refine (now_any g _ x' y' _ b2).mono ?_; rintro r w' ⟨rfl, rfl⟩) | (go_at_call 18; refine (alive_any g _ x' y' _ _ b2 (by omega) (by omega)).mono ?_; rintro r w' ⟨rfl, rfl⟩))
          exact ⟨by simpa using fin, by simp [intOf]; omega⟩
    · go_wp2
      go_ret
      exact ⟨rfl, bel⟩
end Go.Proofs.Ytkdgfjjljokkhaa.epochCountsW
