/- The contract of tree.reach. -/
import Derived.Test.YtljojgpjgjfddaaTReach
import Derived.Laws.EntriesVeiled
namespace Go.Proofs.Ytljojgpjgjfddaa
open Go.RowKit Go.Maps
set_option linter.unusedVariables false
set_option linter.unusedSimpArgs false

def RelFill (n g b2 : Nat) (w0 : World) (i : Value) (wr : World) : Prop :=
  ∃ k : Nat, k ≤ n ∧ i = .int .i64 k ∧ RBlk wr g 3 1 n (fun j => [.int .i64 (if j < k then -2 else 0)]) ∧ Blk wr b2 35 #[.slice (some ⟨g, 0, none⟩) n n] ∧ Below g w0 wr ∧ wr.heap.size = b2 + 1
set_option maxRecDepth 100000 in
set_option maxHeartbeats 2000000 in
theorem reach_any (ns : List Nd) (cs : List Cb) (x : Tr) (An Ac aO aD : Option Addr) (cn cc cO cD : Nat) (w : World) (hv : validP ⟨ns, cs⟩ = 0) (hxl : x.out.length = ns.length) (hro : rowsOk cs x.out = true) (hrl : ∀ r ∈ x.out, r.length ≤ 1000000) (hs0 : 0 ≤ x.src) (hs1 : x.src < ns.length)
    (h : IsPlan w An Ac ⟨ns, cs⟩) (h2 : IsRows w aO x.out.length x.out) :
    Calls Try.prog 105 #[.agg #[.slice An ns.length cn, .slice Ac cs.length cc], .agg #[.int .i64 x.src, .slice aO x.out.length cO, .slice aD x.del.length cD]] w fun e w' => ∃ g, e = .returned (.tuple #[.slice (some ⟨g, 0, none⟩) ns.length ns.length, .bool (reachR ns.length cs x).2]) ∧ w.heap.size ≤ g ∧ IsRec 1 cI 0 w' (some ⟨g, 0, none⟩) ns.length (reachR ns.length cs x).1 ∧ Below w.heap.size w w' := by
  obtain ⟨n16, c32⟩ := valid_sizes hv
  obtain ⟨w1, hw1⟩ : ∃ w1 : World, (w.alloc (.cells #[.slice An ns.length cn, .slice Ac cs.length cc] 25)).alloc (.cells #[.int .i64 x.src, .slice aO x.out.length cO, .slice aD x.del.length cD] 61) = w1 := ⟨_, rfl⟩
  have hsz : Hid (w.heap.size + 1 + 1 = w1.heap.size) := by rw [Hid, ← hw1]; simp
  have BP1 : Hid (Blk w1 w.heap.size 25 #[.slice An ns.length cn, .slice Ac cs.length cc]) := by rw [Hid, ← hw1]; exact (Blk.new w _ _).alloc _
  have BX1 : Hid (Blk w1 (w.heap.size + 1) 61 #[.int .i64 x.src, .slice aO x.out.length cO, .slice aD x.del.length cD]) := by
    rw [Hid, ← hw1]; have := Blk.new (w.alloc (.cells #[.slice An ns.length cn, .slice Ac cs.length cc] 25)) 61 #[.int .i64 x.src, .slice aO x.out.length cO, .slice aD x.del.length cD]; simpa using this
  have BW0 : Hid (Below w.heap.size w w1) := by rw [Hid, ← hw1]; exact ((Below.refl _ _).alloc (Nat.le_refl _) _).alloc (by simp) _
  have HW1 := Lib.hid hw1
  have HV := Lib.hid hv
  have HP := Lib.hid h
  have HR := Lib.hid h2
  have HXL := Lib.hid hxl
  have HRO := Lib.hid hro
  have HRL := Lib.hid hrl
  obtain ⟨j0, hj0, hy0, hy1, hy2⟩ := info_parts infoInt
  obtain ⟨o4, ho4⟩ : ∃ o4, Obj.cells (madeCells #[.int .i64 0] ns.length) 3 = o4 := ⟨_, rfl⟩
  have HO4 := Lib.hid ho4
  have s0 : w1.cell? ⟨w.heap.size, 0, none⟩ = some (.slice An ns.length cn) := by rw [BP1.out.cell]; rfl
  clear h h2 hw1 hv hxl hro hrl ho4
  go_enter Try.func105, Try.ntmps105
  go_wp2_with (at_make; refine wpList_make_rec _ rfl _ _ 35 rfl 3 j0 _ 1 Try.underlying35 hj0 hy0 hy1 .i64 .i64 _ _ ns.length rfl rfl ?m1 ?m2 (by rw [hy2]; omega) (by unfold maxLen; omega) ?_)
  case m1 => rfl
  case m2 => rfl
  rw [HW1.out, HO4.out, hsz.out]
  obtain ⟨w4, hw4⟩ : ∃ w4 : World, (w1.alloc o4).alloc (.cells #[.slice (some ⟨w1.heap.size, 0, none⟩) ns.length ns.length] 35) = w4 := ⟨_, rfl⟩
  have ST : Hid (RelFill ns.length w1.heap.size (w1.heap.size + 1) w1 (.int .i64 0) w4) := by
    refine ⟨0, Nat.zero_le _, rfl, ?_, ?_, ?_, ?_⟩
    · rw [← hw4, ← HO4.out]
      have := (RBlk.made w1 (m := 1) (n := ns.length) (t := 3) (z := #[.int .i64 0]) rfl (by decide)).alloc (.cells #[.slice (some ⟨w1.heap.size, 0, none⟩) ns.length ns.length] 35)
      rw [Nat.mul_one] at this
      exact this.congr fun i hi => rfl
    · rw [← hw4]; have := Blk.new (w1.alloc o4) 35 #[.slice (some ⟨w1.heap.size, 0, none⟩) ns.length ns.length]; simpa using this
    · rw [← hw4]; exact ((Below.refl _ _).alloc (Nat.le_refl _) _).alloc (by simp) _
    · rw [← hw4]; simp
  rw [hw4]
  clear hw4 HO4 hj0 hy0 hy1 hy2
  go_loopw [16] (fun i wr => RelFill ns.length w1.heap.size (w1.heap.size + 1) w1 i wr) (fun i _ => ns.length - (RowKit.intOf i).toNat)
  case atStart => exact ST.out
  case round =>
    clear ST s0
    obtain ⟨k, hk, rfl, rb, b2, bel, hsz4⟩ := hrel
    have RB := Lib.hid rb
    have B2 := Lib.hid b2
    have BE := Lib.hid bel
    have c2 := b2.one.1
    by_cases hkr : k < ns.length
    · have fz := rb.frozen k
      have cz : wr.cell? ⟨w1.heap.size, k, none⟩ = some (.int .i64 0) := by have := rb.cell (i := k) (j := 0) hkr (by omega); simpa using this
      have ki : (k : Int) < (ns.length : Int) := by omega
      have R : Hid (RelFill ns.length w1.heap.size (w1.heap.size + 1) w1 (.int .i64 ((k + 1 : Nat) : Int)) (wr.setCell ⟨w1.heap.size, k, none⟩ (.int .i64 (-2)))) := by
        refine ⟨k + 1, by omega, rfl, (rb.set1 hkr (.int .i64 (-2))).congr fun i hi => ?_, b2.far (p := ⟨w1.heap.size, k, none⟩) (by show w1.heap.size + 1 ≠ w1.heap.size; omega) _, bel.setCell (Nat.le_refl _) _, by simpa [World.setCell] using hsz4⟩
        unfold setR
        by_cases e : i = k
        · subst e; rw [if_pos rfl, if_pos (by omega)]; rfl
        · rw [if_neg e]
          show [Value.int .i64 (if i < k then -2 else 0)] = _
          by_cases e2 : i < k
          · rw [if_pos e2, if_pos (by omega)]
          · rw [if_neg e2, if_neg (by omega)]
      clear rb b2 bel
      go_wp2_with fail
      exact ⟨by simpa using R.out, by simp [RowKit.intOf]; omega⟩
    · obtain rfl : k = ns.length := by omega
      have hsz5 := Lib.hid hsz4
      have hsz' := hsz.out
      obtain ⟨us, hus⟩ : ∃ us : Nat, x.src = us := ⟨x.src.toNat, by omega⟩
      have HUS := Lib.hid hus
      -- the world ahead of the call
      obtain ⟨w5, hw5⟩ : ∃ w5 : World, wr.alloc (.cells #[.func (.func 131) #[] #[.pointer (some ⟨w1.heap.size + 1, 0, none⟩), .pointer (some ⟨w.heap.size + 1, 0, none⟩), .pointer (some ⟨wr.heap.size, 0, none⟩), .pointer (some ⟨w.heap.size, 0, none⟩)]] 109) = w5 := ⟨_, rfl⟩
      have bel5 : Below w1.heap.size w1 w5 := by rw [← hw5]; exact bel.alloc bel.size _
      have BEW : Hid (Below w.heap.size w w5) := BW0.out.trans (bel5.mono BW0.out.size)
      have sz5 : w5.heap.size = w1.heap.size + 3 := by rw [← hw5]; simp [hsz4]
      have TE : Hid (RVE w w5 ns cs x An Ac aO aD cn cc cO cD (w1.heap.size + 1) (w.heap.size + 1) wr.heap.size w.heap.size w1.heap.size w5.heap.size) := by
        refine ⟨?_, BX1.out.below bel5 (by omega), ?_, BP1.out.below bel5 (by omega), HP.out, HR.out, BEW.out, by omega, by omega, by omega, by omega, by omega, by omega, by omega, by omega, by omega, by omega⟩
        · rw [← hw5]; exact b2.alloc _
        · rw [← hw5]; exact Blk.new _ _ _
      have RB5 : Hid (RBlk w5 w1.heap.size 3 1 ns.length (cOv (over0 ns.length))) := by
        rw [Hid, ← hw5]
        refine (rb.alloc _).congr fun i hi => ?_
        unfold cOv over0
        rw [if_pos hi]
        simp [List.getD, hi]
      have VC := Lib.hid (rvisit_any w ns cs x An Ac aO aD cn cc cO cD (w1.heap.size + 1) (w.heap.size + 1) wr.heap.size w.heap.size w1.heap.size w5.heap.size HV.out (by omega) (by omega) HXL.out HRO.out HRL.out (by have := BEW.out.size; omega) (ns.length + 1) us (-1) w5 (over0 ns.length) (by omega) (by decide) (by unfold over0; simp) (by rw [cnt_over0]; omega) (Nat.le_refl _) TE.out RB5.out)
      have RE : Hid (reachR ns.length cs x = visR cs x.out (ns.length + 1) (over0 ns.length) us (-1)) := by rw [Hid]; unfold reachR; rw [HUS.out]; rfl
      have HW5 := Lib.hid hw5
      have fin : Hid (∀ w6, KB w5.heap.size [w1.heap.size] w5 w6 → Below w.heap.size w w6 ∧ w6.cell? ⟨w1.heap.size + 1, 0, none⟩ = some (.slice (some ⟨w1.heap.size, 0, none⟩) ns.length ns.length)) := fun w6 hk6 => by
        have te6 := TE.out.kb hk6 (by have := BEW.out.size; omega)
        exact ⟨BEW.out.trans (hk6.toBelow (by have := BEW.out.size; omega) (by simp; omega)), te6.pO.one.1⟩
      have cX : w5.cell? ⟨w.heap.size + 1, 0, none⟩ = some (.int .i64 (us : Int)) := by rw [TE.out.pX.cell, hus]; rfl
      have cV : w5.cell? ⟨wr.heap.size, 0, none⟩ = some (.func (.func 131) #[] #[.pointer (some ⟨w1.heap.size + 1, 0, none⟩), .pointer (some ⟨w.heap.size + 1, 0, none⟩), .pointer (some ⟨wr.heap.size, 0, none⟩), .pointer (some ⟨w.heap.size, 0, none⟩)]) := TE.out.pV.one.1
      clear rb b2 bel bel5 hsz4 hus c2 hsz'
      go_wp2_with fail
      clear hw5
      refine VC.out.mono ?_
      rintro e w6 ⟨rfl, k6, rb6⟩
      obtain ⟨bw6, c6⟩ := fin.out w6 k6
      have BW6 := Lib.hid bw6
      have RI : Hid (IsRec 1 cI 0 w6 (some ⟨w1.heap.size, 0, none⟩) ns.length (reachR ns.length cs x).1) := by
        rw [Hid, RE.out]
        exact rb6.isRec (by rw [visR_len]; unfold over0; simp) (fun i hi => rfl)
      rw [← RE.out]
      have hle : w.heap.size ≤ w1.heap.size := BW0.out.size
      clear k6 rb6 bw6 cX cV sz5
      go_wp2_with fail
      go_ret2
      exact ⟨_, rfl, hle, RI.out, BW6.out⟩
end Go.Proofs.Ytljojgpjgjfddaa
