/- The reference's Remove, where it finds the frame. -/
import Derived.Test.YtkdgfjjljokkhaaRefBook
import Derived.Deep.RegionLaw
namespace Go.Proofs.Ytkdgfjjljokkhaa
open Go.RowKit
set_option linter.unusedVariables false

set_option maxRecDepth 100000 in
set_option maxHeartbeats 2000000 in
theorem rremove_ok (n e : Int) (A : Option Addr) (cap : Nat) (L : List Int) (w : World) (k0 : Nat) (h : IsList w A L.length L) (hcap : L.length ≤ cap) (hl : L.length ≤ 1000000) (he0 : 0 ≤ e) (he1 : e ≤ n)
    (hk0 : k0 < L.length) (hat : L.getD k0 0 = e) (hbef : ∀ j, j < k0 → L.getD j 0 ≠ e) :
    Calls Try.prog 14 #[.agg #[.int .i64 n, .slice A L.length cap], .int .i64 e] w (RPost A n (cut L k0) 0 w) := by
  have H := Lib.hid h
  have H2 := Lib.hid (h.below (Nat.le_refl _) (W2_below n A L.length cap w))
  have HB := Lib.hid hbef
  have HAT := Lib.hid hat
  have HCL := Lib.hid (cut_length L k0 hk0)
  obtain ⟨i0, hi0, hz0, hz1, hz2⟩ := info_parts infoInt
  clear h hbef hat
  generalize hm : L.length = m at *
  have HM := Lib.hid hm
  clear hm
  go_enter Try.func14, Try.ntmps14
  go_wp2
  go_loop [6] (fun i => ∃ k : Nat, k ≤ k0 ∧ i = .int .i64 k) (fun i => m - (intOf i).toNat)
  case atStart => exact ⟨0, Nat.zero_le _, rfl⟩
  case round =>
    obtain ⟨k, hk, rfl⟩ := hrel
    obtain ⟨b, off, hA, hb, hc⟩ := H2.out.2 (by omega)
    have hck : ((w.alloc (.cells #[.int .i64 n, .slice A m cap] 28)).alloc (.cells #[.int .i64 0, .slice none 0 0] 28)).cell? ⟨b, off + k, none⟩ = some (.int .i64 (L.getD k 0)) := hc k (by omega)
    by_cases hlt : k < k0
    · have hne : (L.getD k 0 == e) = false := by
        rw [beq_eq_false_iff_ne]
        exact HB.out k hlt
      generalize L.getD k 0 = x at *
      subst hA
      clear hc H2
      go_wp2
      go_round
      case rel => exact ⟨k + 1, by omega, by go_num⟩
      case measure => simp [intOf]; omega
    · obtain rfl : k = k0 := by omega
      have he : (L.getD k 0 == e) = true := by rw [HAT.out]; simp
      have BW := Lib.hid (W2_below n A m cap w)
      have SE := W2_size n A m cap w
      have BA := W2_arg n A m cap w
      have BR := W2_res n A m cap w
      have RL := reads_of_list H2.out
      subst hA
      clear hc
      generalize L.getD k 0 = x at *
      go_wp2_with fail
      rw [show (w.alloc (.cells #[.int .i64 n, .slice (some ⟨b, off, none⟩) m cap] 28)).alloc (.cells #[.int .i64 0, .slice none 0 0] 28) = W2 n (some ⟨b, off, none⟩) m cap w from rfl]
      generalize W2 n (some ⟨b, off, none⟩) m cap w = wv at *
      generalize hT : w.heap.size = T at *
      have HT := Lib.hid hT
      clear hT
      have HBA := Lib.hid BA
      have HBR := Lib.hid BR
      have x1 : wv.cell? ⟨T, 1, none⟩ = some (.slice (some ⟨b, off, none⟩) m cap) := BA.cell 1
      have szv : T + 1 + 1 ≤ wv.heap.size := by omega
      have OE := Lib.hid (own_emptyI wv 3 1)
      have hTv : T < wv.heap.size := by omega
      have RL1 : Hid (Reads wv wv.heap.size 1 (some ⟨b, off, none⟩) k ((L.take k).map (Value.int .i64))) := by
        refine ⟨by simp [HM.out]; omega, fun h0 => ?_⟩
        obtain ⟨ad, ha, hb2, hc2⟩ := RL.2 (by omega)
        refine ⟨ad, ha, hb2, fun j u hu => hc2 j u ?_⟩
        rw [List.map_take, List.getElem?_take] at hu
        split at hu
        · exact hu
        · cases hu
      have RL2 : Hid (k + 1 < cap → Reads wv wv.heap.size 1 (some ⟨b, off + (k + 1), none⟩) (m - (k + 1)) ((L.drop (k + 1)).map (Value.int .i64))) := by
        intro hcp
        have h := RL.cut (k := k + 1) (cap := cap) (by omega) (by omega)
        rw [if_neg (by omega)] at h
        simp only [Option.map_some, Nat.mul_one, Addr.add_lit] at h
        rw [List.map_drop]
        exact h
      have R1 := Lib.hid ((RL1.out.alloc (Nat.le_refl _) (.cells #[] 3)).drew)
      have nT : some T ≠ some wv.heap.size := by simp; omega
      clear BA BR SE H2 hck he RL RL1
      have k0i : (0 : Int) ≤ (k : Int) := by omega
      have k1i : (k : Int) ≤ (m : Int) := by omega
      have k6i : (k : Int) ≤ (cap : Int) := by omega
      have k7i : (m : Int) ≤ (cap : Int) := by omega
      have k2i : (k : Int) + 1 ≤ (m : Int) := by omega
      have k3i : (0 : Int) ≤ (k : Int) + 1 := by omega
      have k4 : ((k : Int) + 1).toNat = k + 1 := by omega
      have k5 : IntKind.i64.wrap ((k : Int) + 1) = (k : Int) + 1 := IntWalk.i64_in _ (by omega)
      have ones1 := Lib.hid (ints_one (L.take k))
      have ones2 := Lib.hid (ints_one (L.drop (k + 1)))
      by_cases hcp : cap = k + 1
      · have hmk : m = k + 1 := by omega
        subst hcp
        subst hmk
        have hdr : L.drop (k + 1) = [] := List.drop_eq_nil_of_le (by rw [HM.out]; omega)
        have hcut : Hid ((L.take k).map (Value.int .i64) = (cut L k).map (Value.int .i64)) := by show _ = _; unfold cut; rw [hdr]; simp
        clear hdr
        have q1 : (k : Int) ≤ (k : Int) + 1 := by omega
        have q2 : ¬ (k : Int) + 1 < (k : Int) := by omega
        have q3 : k ≤ k + 1 := by omega
        have fx1 : wv.frozen? ⟨T, 1, none⟩ = false := HBA.out.frozen 1
        have fxa : (wv.alloc (.cells #[] 3)).frozen? ⟨T, 1, none⟩ = false := (Blk.alloc HBA.out _).frozen 1
        have cxa : (wv.alloc (.cells #[] 3)).cell? ⟨T, 1, none⟩ = some (.slice (some ⟨b, off, none⟩) (k + 1) (k + 1)) := (Blk.alloc HBA.out _).cell 1
        go_region_law
          (first
            | (refine step_append_any _ (by rfl) (.tmp 30) (.tmp 34) 26 (by rfl) wv.heap.size 3 i0 _ 1 8 Try.underlying26 hi0 hz0 hz1 hz2 rfl (by decide) _ 0 [] (by rfl) (OE.out.drew) _ (some ⟨b, off, none⟩) k (k + 1) ((L.take k).map (Value.int .i64)) (by rfl) R1.out ones1.out ?_ ?_ ?_ ?_; (unfold maxLen; omega); omega; simp; intro v1 w1 own1 gr1 loc1; have s1 := gr1.size; simp at s1; have og1 : ∀ g, v1.ownBlock = some g → wv.heap.size ≤ g := fun g e => (own1.lt g e).1; have OG1 := Lib.hid og1; clear og1; have cx1 : w1.cell? ⟨T, 1, none⟩ = some (.slice (some ⟨b, off, none⟩) (k + 1) (k + 1)) := (gr1.cell_far _ (by simp; omega) nT).trans cxa; have fx1 : w1.frozen? ⟨T, 1, none⟩ = false := (gr1.frozen_far _ (by simp; omega) nT).trans fxa)
            | (refine step_append_any _ (by rfl) (.tmp 35) (.tmp 40) 26 (by rfl) wv.heap.size 3 i0 _ 1 8 Try.underlying26 hi0 hz0 hz1 hz2 rfl (by decide) _ _ _ (by rfl) own1 _ (some ⟨b, off, none⟩) 0 0 [] (by rfl) (Reads.none_ (B := 0)) (by simp) ?_ ?_ ?_ ?_; (unfold maxLen; omega); omega; omega; intro v2 w2 own2 gr2 loc2; have nT2 : some T ≠ v1.ownBlock := (by intro e; have := OG1.out _ e.symm; omega); rw [List.nil_append, List.append_nil, hcut.out, Nat.zero_add, Nat.add_zero] at own2; obtain ⟨a3, cap3, hv3, hcp3, hd3, ha3⟩ := list_of_own own2; rw [hv3]; have D3 := Lib.hid hd3; have A3 := Lib.hid ha3; have V3 := Lib.hid hv3; clear hd3 ha3 hv3 own2; have cx2 : w2.cell? ⟨T, 1, none⟩ = some (.slice (some ⟨b, off, none⟩) (k + 1) (k + 1)) := (gr2.cell_far _ (by simp; omega) nT2).trans cx1; have fx2 : w2.frozen? ⟨T, 1, none⟩ = false := (gr2.frozen_far _ (by simp; omega) nT2).trans fx1))
        all_goals
          have nR : some (T + 1) ≠ some wv.heap.size := by simp; omega
          have nR2 : some (T + 1) ≠ v1.ownBlock := by intro e; have := OG1.out _ e.symm; omega
          have ba2 := Blk.grown (Blk.grown (Blk.drew (Blk.alloc HBA.out _)) gr1 nT) gr2 nT2
          have br2 := Blk.grown (Blk.grown (Blk.drew (Blk.alloc HBR.out _)) gr1 nR) gr2 nR2
          have bw := BW.out
          have bel2 : Below T w w2 := ((((bw.alloc (by omega) _).drew).grown gr1 (by simp; omega) (by intro g e; simp [Value.ownBlock] at e; omega)).grown gr2 (by omega) (by intro g e; have := OG1.out g e; omega))
          have x0 : w2.cell? ⟨T, 0, none⟩ = some (.int .i64 n) := ba2.cell 0
          have y0 : w2.cell? ⟨T + 1, 0, none⟩ = some (.int .i64 0) := br2.cell 0
          have y1 : w2.cell? ⟨T + 1, 0 + 1, none⟩ = some (.slice none 0 0) := br2.cell 1
          have fy0 := br2.frozen 0
          have fy1 := br2.frozen (0 + 1)
          clear k4 k5 own1 gr1 gr2 cxa fxa
          go_wp2
          have hlen : k = (cut L k).length := by rw [HCL.out]; omega
          have HLEN := Lib.hid hlen
          clear hlen
          have brF : Blk (((w2.setCell ⟨T, 1, none⟩ (.slice a3 (k) cap3)).setCell ⟨T + 1, 0, none⟩ (.int .i64 n)).setCell ⟨T + 1, 1, none⟩ (.slice a3 (k) cap3)) (T + 1) 28 #[.int .i64 n, .slice a3 (k) cap3] :=
            ((br2.far (p := ⟨T, 1, none⟩) (by simp) _).set_ 0 _).set_ 1 _
          have f0 : _ = some (Value.int .i64 n) := brF.cell 0
          have f1 : _ = some (Value.slice a3 (k) cap3) := brF.cell 1
          refine bodyPost_ret (v := .tuple #[.agg #[.int .i64 n, .slice a3 (k) cap3], .int .i64 0]) (by simp [results, Try.results14, go_sem, f0, f1]) rfl ?_
          refine ⟨a3, cap3, congrArg (fun q => Ending.returned (.tuple #[.agg #[.int .i64 n, .slice a3 q cap3], .int .i64 0])) HLEN.out, by rw [← HLEN.out]; exact hcp3, ?_, .inr (fun x e => by have := A3.out x e; have := HT.out; omega), ?_⟩
          · rw [← HLEN.out]
            exact ((D3.out.setCell (fun x e => by have := A3.out x e; simp; omega) _).setCell (fun x e => by have := A3.out x e; simp; omega) _).setCell (fun x e => by have := A3.out x e; simp; omega) _
          · rw [HT.out]
            exact ((bel2.setCell (by simp) _).setCell (by simp) _).setCell (by simp) _
      · have RL2' : Hid (∀ w1, ((wv.alloc (.cells #[] 3)).drew).grownBy w1 (some wv.heap.size) → Reads w1 wv.heap.size 1 (some ⟨b, off + (k + 1), none⟩) (m - (k + 1)) ((L.drop (k + 1)).map (Value.int .i64))) := fun w1 g1 =>
          ((RL2.out (by omega)).alloc (Nat.le_refl _) (.cells #[] 3)).drew.grown g1 (by simp) (by intro g e; injection e with e; omega)
        have fx1 : wv.frozen? ⟨T, 1, none⟩ = false := HBA.out.frozen 1
        have fxa : (wv.alloc (.cells #[] 3)).frozen? ⟨T, 1, none⟩ = false := (Blk.alloc HBA.out _).frozen 1
        have cxa : (wv.alloc (.cells #[] 3)).cell? ⟨T, 1, none⟩ = some (.slice (some ⟨b, off, none⟩) m cap) := (Blk.alloc HBA.out _).cell 1
        go_region_law
          (first
            | (refine step_append_any _ (by rfl) (.tmp 30) (.tmp 34) 26 (by rfl) wv.heap.size 3 i0 _ 1 8 Try.underlying26 hi0 hz0 hz1 hz2 rfl (by decide) _ 0 [] (by rfl) (OE.out.drew) _ (some ⟨b, off, none⟩) k cap ((L.take k).map (Value.int .i64)) (by rfl) R1.out ones1.out ?_ ?_ ?_ ?_; (unfold maxLen; omega); omega; simp; intro v1 w1 own1 gr1 loc1; have s1 := gr1.size; simp at s1; have og1 : ∀ g, v1.ownBlock = some g → wv.heap.size ≤ g := fun g e => (own1.lt g e).1; have OG1 := Lib.hid og1; clear og1; have cx1 : w1.cell? ⟨T, 1, none⟩ = some (.slice (some ⟨b, off, none⟩) m cap) := (gr1.cell_far _ (by simp; omega) nT).trans cxa; have fx1 : w1.frozen? ⟨T, 1, none⟩ = false := (gr1.frozen_far _ (by simp; omega) nT).trans fxa)
            | (refine step_append_any _ (by rfl) (.tmp 35) (.tmp 40) 26 (by rfl) wv.heap.size 3 i0 _ 1 8 Try.underlying26 hi0 hz0 hz1 hz2 rfl (by decide) _ _ _ (by rfl) own1 _ (some ⟨b, off + (k + 1), none⟩) (m - (k + 1)) (cap - (k + 1)) ((L.drop (k + 1)).map (Value.int .i64)) (by rfl) (RL2'.out _ gr1) ones2.out ?_ ?_ ?_ ?_; (unfold maxLen; omega); omega; omega; intro v2 w2 own2 gr2 loc2; have nT2 : some T ≠ v1.ownBlock := (by intro e; have := OG1.out _ e.symm; omega); rw [show ([] ++ (L.take k).map (Value.int .i64)) ++ (L.drop (k + 1)).map (Value.int .i64) = (cut L k).map (Value.int .i64) from by simp [cut]] at own2; rw [Nat.zero_add] at own2; obtain ⟨a3, cap3, hv3, hcp3, hd3, ha3⟩ := list_of_own own2; rw [hv3]; have D3 := Lib.hid hd3; have A3 := Lib.hid ha3; have V3 := Lib.hid hv3; clear hd3 ha3 hv3 own2; have cx2 : w2.cell? ⟨T, 1, none⟩ = some (.slice (some ⟨b, off, none⟩) m cap) := (gr2.cell_far _ (by simp; omega) nT2).trans cx1; have fx2 : w2.frozen? ⟨T, 1, none⟩ = false := (gr2.frozen_far _ (by simp; omega) nT2).trans fx1))
        all_goals
          have nR : some (T + 1) ≠ some wv.heap.size := by simp; omega
          have nR2 : some (T + 1) ≠ v1.ownBlock := by intro e; have := OG1.out _ e.symm; omega
          have ba2 := Blk.grown (Blk.grown (Blk.drew (Blk.alloc HBA.out _)) gr1 nT) gr2 nT2
          have br2 := Blk.grown (Blk.grown (Blk.drew (Blk.alloc HBR.out _)) gr1 nR) gr2 nR2
          have bw := BW.out
          have bel2 : Below T w w2 := ((((bw.alloc (by omega) _).drew).grown gr1 (by simp; omega) (by intro g e; simp [Value.ownBlock] at e; omega)).grown gr2 (by omega) (by intro g e; have := OG1.out g e; omega))
          have x0 : w2.cell? ⟨T, 0, none⟩ = some (.int .i64 n) := ba2.cell 0
          have y0 : w2.cell? ⟨T + 1, 0, none⟩ = some (.int .i64 0) := br2.cell 0
          have y1 : w2.cell? ⟨T + 1, 0 + 1, none⟩ = some (.slice none 0 0) := br2.cell 1
          have fy0 := br2.frozen 0
          have fy1 := br2.frozen (0 + 1)
          clear k4 k5 own1 gr1 gr2 cxa fxa
          go_wp2
          have hlen : k + (m - (k + 1)) = (cut L k).length := by rw [HCL.out]; omega
          have HLEN := Lib.hid hlen
          clear hlen
          have brF : Blk (((w2.setCell ⟨T, 1, none⟩ (.slice a3 (k + (m - (k + 1))) cap3)).setCell ⟨T + 1, 0, none⟩ (.int .i64 n)).setCell ⟨T + 1, 1, none⟩ (.slice a3 (k + (m - (k + 1))) cap3)) (T + 1) 28 #[.int .i64 n, .slice a3 (k + (m - (k + 1))) cap3] :=
            ((br2.far (p := ⟨T, 1, none⟩) (by simp) _).set_ 0 _).set_ 1 _
          have f0 : _ = some (Value.int .i64 n) := brF.cell 0
          have f1 : _ = some (Value.slice a3 (k + (m - (k + 1))) cap3) := brF.cell 1
          refine bodyPost_ret (v := .tuple #[.agg #[.int .i64 n, .slice a3 (k + (m - (k + 1))) cap3], .int .i64 0]) (by simp [results, Try.results14, go_sem, f0, f1]) rfl ?_
          refine ⟨a3, cap3, congrArg (fun q => Ending.returned (.tuple #[.agg #[.int .i64 n, .slice a3 q cap3], .int .i64 0])) HLEN.out, by rw [← HLEN.out]; exact hcp3, ?_, .inr (fun x e => by have := A3.out x e; have := HT.out; omega), ?_⟩
          · rw [← HLEN.out]
            exact ((D3.out.setCell (fun x e => by have := A3.out x e; simp; omega) _).setCell (fun x e => by have := A3.out x e; simp; omega) _).setCell (fun x e => by have := A3.out x e; simp; omega) _
          · rw [HT.out]
            exact ((bel2.setCell (by simp) _).setCell (by simp) _).setCell (by simp) _
end Go.Proofs.Ytkdgfjjljokkhaa
