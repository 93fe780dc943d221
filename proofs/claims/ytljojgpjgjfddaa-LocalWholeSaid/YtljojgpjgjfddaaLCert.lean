/- The contract of certificate.Check, where all dependencies are as they should be. -/
import Derived.Test.YtljojgpjgjfddaaCBase
namespace Go.Proofs.Ytljojgpjgjfddaa
open Go.RowKit Go.Maps
set_option linter.unusedVariables false

def hasCh (n : Nat) (c : Int) : Bool := decide (0 ≤ c) && decide (c < n)
theorem certHas_any (g n : Nat) (A : Option Addr) (cap : Nat) (c : Int) (w : World) (hn : n ≤ 1000000) (h : w.cell? ⟨g, 0, none⟩ = some (.slice A n cap)) (h0 : 0 ≤ c) (h1 : c < n) :
    Calls Try.prog 48 #[.int .i64 c, .pointer (some ⟨g, 0, none⟩)] w fun e w' => e = .returned (.bool true) ∧ w' = w := by
  go_enter Try.func48, Try.ntmps48
  go_wp2_with fail
  go_ret
  exact ⟨rfl, rfl⟩
set_option maxRecDepth 100000 in
set_option maxHeartbeats 1000000 in
theorem certCheck_any (ds : List Dp) (rs : List Int) (Ad Ar : Option Addr) (cd cr : Nat) (w : World) (hl : ds.length ≤ 1000000) (hr : rs.length ≤ 1000000) (hd : IsRec 3 cD d0 w Ad ds.length ds) (hrs : IsRec 1 cI 0 w Ar rs.length rs)
    (hok : ∀ d ∈ ds, (0 ≤ d.1 ∧ d.1 < rs.length) ∧ (0 ≤ d.2.1 ∧ d.2.1 < rs.length) ∧ rs.getD d.1.toNat 0 < rs.getD d.2.1.toNat 0) :
    Calls Try.prog 17 #[.slice Ad ds.length cd, .slice Ar rs.length cr] w fun e w' => e = .returned (.slice none 0 0) ∧ Below w.heap.size w w' := by
  obtain ⟨w1, hw1⟩ : ∃ w1 : World, w.alloc (.cells #[.slice Ar rs.length cr] 36) = w1 := ⟨_, rfl⟩
  have BW : Hid (Below w.heap.size w w1) := by rw [← hw1]; exact (Below.refl _ _).alloc (Nat.le_refl _) _
  have PB : Hid (Blk w1 w.heap.size 36 #[.slice Ar rs.length cr]) := by rw [← hw1]; exact Blk.new _ _ _
  have HD := Lib.hid (hd.below (Nat.le_refl _) BW.out)
  have HR := Lib.hid (hrs.below (Nat.le_refl _) BW.out)
  have HOK := Lib.hid hok
  have HW1 := Lib.hid hw1
  clear hd hrs hok hw1
  go_enter Try.func17, Try.ntmps17
  go_wp2_with fail
  rw [HW1.out]
  go_loopw [6, 12] (fun v i wr => ∃ k : Nat, k ≤ ds.length ∧ i = .int .i64 k ∧ v = .slice none 0 0 ∧ Below w1.heap.size w1 wr) (fun _ i _ => ds.length - (RowKit.intOf i).toNat)
  case atStart => exact ⟨0, Nat.zero_le _, rfl, rfl, Below.refl _ _⟩
  case round =>
    obtain ⟨k, hk, rfl, rfl, bel⟩ := hrel
    have BEL := Lib.hid bel
    by_cases hkr : k < ds.length
    · obtain ⟨bb, off, ha, hbb, hmem, e0, e1, e2⟩ := dep_at (HD.out.below (Nat.le_refl _) bel) k hkr
      obtain ⟨⟨f0, f1⟩, ⟨t0, t1⟩, hlt⟩ := HOK.out _ hmem
      generalize ds.getD k d0 = x at *
      obtain ⟨df, dt, dn⟩ := x
      simp only at e0 e1 e2 f0 f1 t0 t1 hlt
      obtain ⟨f, rfl⟩ : ∃ f : Nat, df = f := ⟨df.toNat, by omega⟩
      obtain ⟨t, rfl⟩ : ∃ t : Nat, dt = t := ⟨dt.toNat, by omega⟩
      rw [Int.toNat_natCast, Int.toNat_natCast] at hlt
      subst ha
      have hRW := HR.out.below (Nat.le_refl _) bel
      obtain ⟨br, orr, hAr, hbr, _, cf⟩ := int_at hRW f (by omega)
      obtain ⟨br', orr', hAr', _, _, ct⟩ := int_at hRW t (by omega)
      rw [hAr] at hAr'
      injection hAr' with hAr'
      injection hAr' with q1 q2
      subst q1
      subst q2
      subst hAr
      obtain ⟨xf, hxf⟩ : ∃ z, rs.getD f 0 = z := ⟨_, rfl⟩
      obtain ⟨xt, hxt⟩ : ∃ z, rs.getD t 0 = z := ⟨_, rfl⟩
      rw [hxf] at cf hlt
      rw [hxt] at ct hlt
      obtain ⟨wa, hwa⟩ : ∃ wa : World, wr.alloc (.cells #[.int .i64 (f : Int), .int .i64 (t : Int), .int .i64 dn] 49) = wa := ⟨_, rfl⟩
      have BA : Hid (Below wr.heap.size wr wa) := by rw [← hwa]; exact (Below.refl _ _).alloc (Nat.le_refl _) _
      obtain ⟨bd, hbd⟩ : ∃ bd, wr.heap.size = bd := ⟨_, rfl⟩
      have PD : Blk wa bd 49 #[.int .i64 (f : Int), .int .i64 (t : Int), .int .i64 dn] := by rw [← hwa, ← hbd]; exact Blk.new _ _ _
      have d0' : wa.cell? ⟨bd, 0, none⟩ = some (.int .i64 (f : Int)) := by rw [PD.cell]; rfl
      have d1' : wa.cell? ⟨bd, 1, none⟩ = some (.int .i64 (t : Int)) := by rw [PD.cell]; rfl
      have g0 : wa.cell? ⟨w.heap.size, 0, none⟩ = some (.slice (some ⟨br, orr, none⟩) rs.length cr) := by
        have q : Blk wa _ _ _ := (PB.out.below bel PB.out.lt).below BA.out (PB.out.below bel PB.out.lt).lt
        rw [q.cell]; rfl
      have G0 : Hid (∀ n : Nat, (wa.drewN n).cell? ⟨w.heap.size, 0, none⟩ = some (.slice (some ⟨br, orr, none⟩) rs.length cr)) := fun n => ((below_drewN (Below.refl wa.heap.size wa) n).cell (p := ⟨w.heap.size, 0, none⟩) (by have := (PB.out.below bel PB.out.lt).lt; have := BA.out.size; show w.heap.size < wa.heap.size; omega)).trans g0
      have HF : Hid (∀ n : Nat, Calls Try.prog 48 #[.int .i64 (f : Int), .pointer (some ⟨w.heap.size, 0, none⟩)] (wa.drewN n) fun e w'' => e = .returned (.bool true) ∧ ∃ m, w'' = wa.drewN m) := fun n => Calls.quiet_of_same (certHas_any w.heap.size rs.length (some ⟨br, orr, none⟩) cr (f : Int) _ hr (G0.out n) f0 f1)
      have HT : Hid (∀ n : Nat, Calls Try.prog 48 #[.int .i64 (t : Int), .pointer (some ⟨w.heap.size, 0, none⟩)] (wa.drewN n) fun e w'' => e = .returned (.bool true) ∧ ∃ m, w'' = wa.drewN m) := fun n => Calls.quiet_of_same (certHas_any w.heap.size rs.length (some ⟨br, orr, none⟩) cr (t : Int) _ hr (G0.out n) t0 t1)
      have cf2 : wa.cell? ⟨br, orr + f, none⟩ = some (.int .i64 xf) := (BA.out.cell (p := ⟨br, orr + f, none⟩) hbr).trans cf
      have ct2 : wa.cell? ⟨br, orr + t, none⟩ = some (.int .i64 xt) := (BA.out.cell (p := ⟨br, orr + t, none⟩) hbr).trans ct
      have R : Hid (∀ n : Nat, ∃ k' : Nat, k' ≤ ds.length ∧ (Value.int .i64 ((k + 1 : Nat) : Int)) = .int .i64 (k' : Int) ∧ (Value.slice none 0 0) = .slice none 0 0 ∧ Below w1.heap.size w1 (wa.drewN n)) := fun n =>
        ⟨k + 1, by omega, rfl, rfl, below_drewN (BEL.out.trans (BA.out.mono BEL.out.size)) n⟩
      have HWA := Lib.hid hwa
      have HBD := Lib.hid hbd
      have hn : ¬ xt ≤ xf := by omega
      clear bel hRW cf ct hmem hxf hxt hwa hbd PD
      go_wp2_with fail
      rw [HWA.out, HBD.out]
      go_quiet ((first | with_reducible exact HF.out _ | with_reducible exact HT.out _))
      go_wp2_with fail
      exact ⟨⟨k + 1, by omega, by simp, rfl, below_drewN (BEL.out.trans (BA.out.mono BEL.out.size)) _⟩, by simp [RowKit.intOf]; omega⟩
    · obtain rfl : k = ds.length := by omega
      have F : Hid (Below w.heap.size w wr) := BW.out.trans (bel.mono BW.out.size)
      clear bel
      go_wp2_with fail
      go_ret
      exact ⟨rfl, F.out⟩
end Go.Proofs.Ytljojgpjgjfddaa
