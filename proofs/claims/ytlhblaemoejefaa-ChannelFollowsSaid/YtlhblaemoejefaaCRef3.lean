/- The contract of the reference's Insert. -/
import Derived.Test.YtlhblaemoejefaaCRef2
namespace Go.Proofs.Ytlhblaemoejefaa
open Go.RowKit Go.Maps Go.Sort Go.Shelf
set_option linter.unusedVariables false

theorem infoR20D : (Try.prog.info? 34).map (fun i => (i.zero, i.size, i.bytes)) = some (some (.agg #[.int .i64 0, .int .i64 0, .int .i64 0]), 3, 24) := by kernel_rfl
theorem reads_newC (w : World) (t : TypeId) (cs : Array Value) {n size : Nat} (h : cs.size = n * size) : Reads (w.alloc (.cells cs t)) (w.heap.size + 1) size (some ⟨w.heap.size, 0, none⟩) n cs.toList :=
  ⟨by simpa using h, fun _ => ⟨_, rfl, by simp, fun q u hu => World.news_of_block (cs := cs) (t := t) (fr := (0, 0)) (heap_alloc_new w _) q u hu⟩⟩
theorem flat_take (l : List Dp) (k : Nat) : (l.flatMap cD).take (k * 3) = (l.take k).flatMap cD := by
  induction k generalizing l with
  | zero => simp
  | succ k ih =>
    cases l with
    | nil => simp
    | cons x l => rw [List.flatMap_cons, List.take_succ_cons, List.flatMap_cons, ← ih l, show (k + 1) * 3 = (cD x).length + k * 3 by rw [cD_len3]; omega, List.take_length_add_append]
theorem flat_dropC (l : List Dp) (k : Nat) : (l.flatMap cD).drop (k * 3) = (l.drop k).flatMap cD := by
  induction k generalizing l with
  | zero => simp
  | succ k ih =>
    cases l with
    | nil => simp
    | cons x l => rw [List.flatMap_cons, List.drop_succ_cons, ← ih l, show (k + 1) * 3 = (cD x).length + k * 3 by rw [cD_len3]; omega, List.drop_length_add_append]
theorem Reads.takeC {w : World} {B n : Nat} {A : Option Addr} {l : List Dp} (h : Reads w B 3 A n (l.flatMap cD)) (k : Nat) (hk : k ≤ n) : Reads w B 3 A k ((l.take k).flatMap cD) := by
  have hl : l.length = n := by
    have := h.1; rw [flatG_length (m := 3) cD_len3] at this; omega
  refine ⟨by rw [flatG_length (m := 3) cD_len3, List.length_take]; omega, fun h0 => ?_⟩
  obtain ⟨ad, e, hb, hc⟩ := h.2 (by omega)
  refine ⟨ad, e, hb, fun j u hu => hc j u ?_⟩
  rw [← flat_take, List.getElem?_take] at hu
  split at hu
  · exact hu
  · cases hu
theorem insL_ins {l : List Dp} {d : Dp} {k : Nat} (h1 : ∀ q, q < k → lessD (l.getD q d0) d = true) (hk : k ≤ l.length) (h2 : k < l.length → lessD (l.getD k d0) d = false) (h3 : l[k]? ≠ some d) : insL l d = l.take k ++ d :: l.drop k := by
  have e := insN_eq h1 hk h2
  unfold insL; rw [e, if_neg h3]
theorem insL_same {l : List Dp} {d : Dp} {k : Nat} (h1 : ∀ q, q < k → lessD (l.getD q d0) d = true) (hk : k < l.length) (h2 : lessD (l.getD k d0) d = false) (h3 : l.getD k d0 = d) : insL l d = l := by
  have e := insN_eq h1 (by omega) (fun _ => h2)
  have e2 : l.getD k d0 = l[k] := by simp [List.getD, hk]
  unfold insL; rw [e, if_pos (by rw [List.getElem?_eq_getElem hk, ← e2, h3])]

def RelIn (l : List Dp) (d : Dp) (w1 : World) (i : Value) (wr : World) : Prop := ∃ k : Nat, k ≤ l.length ∧ i = .int .i64 k ∧ (∀ q, q < k → lessD (l.getD q d0) d = true) ∧ Below w1.heap.size w1 wr
set_option maxRecDepth 100000 in
set_option maxHeartbeats 8000000 in
theorem insert20_any (l : List Dp) (d : Dp) (a : Option Addr) (c : Nat) (w : World) (hl : l.length ≤ 1000000) (hlc : l.length ≤ c) (hnc : a = none → c = 0) (h : IsRec 3 cD d0 w a l.length l) :
    Calls Try.prog 44 #[.slice a l.length c, .agg #[.int .i64 d.1, .int .i64 d.2.1, .int .i64 d.2.2]] w (DPost (insL l d) w) := by
  obtain ⟨i0, hi0, hz0, hz1, hz2⟩ := info_parts infoR20D
  obtain ⟨w1, hw1⟩ : ∃ w1 : World, w.alloc (.cells #[.int .i64 d.1, .int .i64 d.2.1, .int .i64 d.2.2] 34) = w1 := ⟨_, rfl⟩
  have s0 : w1.cell? ⟨w.heap.size, 0, none⟩ = some (.int .i64 d.1) := by rw [← hw1]; simp [go_sem]
  have s1 : w1.cell? ⟨w.heap.size, 1, none⟩ = some (.int .i64 d.2.1) := by rw [← hw1]; simp [go_sem]
  have s2 : w1.cell? ⟨w.heap.size, 2, none⟩ = some (.int .i64 d.2.2) := by rw [← hw1]; simp [go_sem]
  have sz1 : w.heap.size < w1.heap.size := by rw [← hw1]; simp
  have BW : Hid (Below w.heap.size w w1) := by rw [← hw1]; exact (Below.refl _ _).alloc (Nat.le_refl _) _
  have H := Lib.hid (h.below (Nat.le_refl _) BW.out)
  have HW1 := Lib.hid hw1
  have KC : Hid (∀ w', Below w1.heap.size w1 w' → w'.cell? ⟨w.heap.size, 0, none⟩ = some (.int .i64 d.1) ∧ w'.cell? ⟨w.heap.size, 1, none⟩ = some (.int .i64 d.2.1) ∧ w'.cell? ⟨w.heap.size, 2, none⟩ = some (.int .i64 d.2.2) ∧ Below w.heap.size w w') :=
    fun w' hb => ⟨(hb.cell (by exact sz1)).trans s0, (hb.cell (by exact sz1)).trans s1, (hb.cell (by exact sz1)).trans s2, BW.out.trans (hb.mono BW.out.size)⟩
  have R0 : Hid (Reads w1 w1.heap.size 3 a l.length (l.flatMap cD)) := reads_of_rec cD_len3 H.out
  clear h hw1 s0 s1 s2
  go_enter Try.func44, Try.ntmps44
  go_wp2_with fail
  rw [HW1.out]
  clear HW1
  go_loopw [5] (fun i wr => RelIn l d w1 i wr) (fun i _ => l.length - (RowKit.intOf i).toNat)
  case atStart => exact ⟨0, Nat.zero_le _, rfl, fun q hq => absurd hq (by omega), Below.refl _ _⟩
  case round =>
    obtain ⟨k, hk, rfl, hall, bel⟩ := hrel
    have HA := Lib.hid hall
    obtain ⟨k0, k1, k2, bf⟩ := KC.out wr bel
    have BF := Lib.hid bf
    have BE := Lib.hid bel
    have ZB : Hid (∀ n, w1.heap.size ≤ (wr.drewN n).heap.size) := fun n => bel.size
    have EB : Hid (∀ n w', ((wr.drewN n).alloc (.cells #[] 34)).grownBy w' (some wr.heap.size) → Below w1.heap.size w1 w') := fun n w' g => ((below_drewN bel n).alloc bel.size _).grown g (by have := bel.size; simp; omega) (fun q e => by injection e with e; have := bel.size; omega)
    have RT : Hid (∀ n o, Reads ((wr.drewN n).alloc o) w1.heap.size 3 a k ((l.take k).flatMap cD)) := fun n o => (((R0.out.takeC k hk).below bel).drewN n).alloc bel.size o
    have RD : Hid (∀ W, Below w1.heap.size w1 W → Reads W w1.heap.size 3 (if c = k then a else a.map (·.add (k * 3))) (l.length - k) ((l.drop k).flatMap cD)) := fun W hb => by
      have h1 := (R0.out.cut (k := k) (cap := c) hk hlc).below hb
      rw [flat_dropC] at h1
      exact h1
    clear hall bf
    by_cases hkr : k < l.length
    · obtain ⟨b1, o1, ha1, hb1, hm1, e0, e1, e2⟩ := dep_at (H.out.below (Nat.le_refl _) bel) k hkr
      subst ha1
      have HG : Hid (∀ W, Below wr.heap.size wr W → W.cell? ⟨b1, o1 + k * 3, none⟩ = some (.int .i64 (l.getD k d0).1) ∧ W.cell? ⟨b1, o1 + k * 3 + 1, none⟩ = some (.int .i64 (l.getD k d0).2.1) ∧ W.cell? ⟨b1, o1 + k * 3 + 1 + 1, none⟩ = some (.int .i64 (l.getD k d0).2.2)) :=
        fun W hb => ⟨(hb.cell (by exact hb1)).trans e0, (hb.cell (by exact hb1)).trans e1, (hb.cell (by exact hb1)).trans e2⟩
      have LS := Lib.hid (less20_any (l.getD k d0) d wr.drew)
      have i1 : (0 : Int) ≤ (k : Int) := by omega
      have i2 : (k : Int) < (l.length : Int) := by omega
      have kl : k ≤ c := by omega
      have kc : (k : Int) ≤ (c : Int) := by omega
      have szr := bel.size
      have hd2 : decide ((k : Int) < (l.length : Int)) = true := by simp; omega
      have SM : Hid (lessD (l.getD k d0) d = false → l.getD k d0 = d → insL l d = l) := fun h1 h2 => insL_same HA.out hkr h1 h2
      have SI : Hid (lessD (l.getD k d0) d = false → l.getD k d0 ≠ d → insL l d = l.take k ++ d :: l.drop k) := fun h1 h2 => insL_ins HA.out hk (fun _ => h1) (by
        rw [List.getElem?_eq_getElem hkr]
        have e2 : l.getD k d0 = l[k] := by simp [List.getD, hkr]
        rw [← e2]; intro h3; injection h3 with h3; exact h2 h3)
      have NX : Hid (lessD (l.getD k d0) d = true → ∀ w', Below w1.heap.size w1 w' → RelIn l d w1 (.int .i64 ((k + 1 : Nat) : Int)) w') := fun h1 w' hb => ⟨k + 1, by omega, rfl, fun q hq => by
        rcases Nat.lt_or_ge q k with h | h
        · exact HA.out q h
        · have : q = k := by omega
          subst this; exact h1, hb⟩
      generalize l.getD k d0 = x at *
      obtain ⟨x0, x1, x2⟩ := x
      have KE : Hid (∀ W, Below wr.heap.size wr W → W.cell? ⟨b1, o1 + k * 3, none⟩ = some (.int .i64 x0) ∧ W.cell? ⟨b1, o1 + k * 3 + 1, none⟩ = some (.int .i64 x1) ∧ W.cell? ⟨b1, o1 + k * 3 + 1 + 1, none⟩ = some (.int .i64 x2) ∧ W.cell? ⟨w.heap.size, 0, none⟩ = some (.int .i64 d.1) ∧ W.cell? ⟨w.heap.size, 1, none⟩ = some (.int .i64 d.2.1) ∧ W.cell? ⟨w.heap.size, 2, none⟩ = some (.int .i64 d.2.2)) := fun W hb =>
        have h2 := KC.out W (BE.out.trans (hb.mono szr))
        ⟨(HG.out W hb).1, (HG.out W hb).2.1, (HG.out W hb).2.2, h2.1, h2.2.1, h2.2.2.1⟩
      simp only at e0 e1 e2 LS
      clear hm1 bel HG
      go_wp2_with fail
      go_region_held3 (fun W => W.cell? ⟨b1, o1 + k * 3, none⟩ = some (.int .i64 x0) ∧ W.cell? ⟨b1, o1 + k * 3 + 1, none⟩ = some (.int .i64 x1) ∧ W.cell? ⟨b1, o1 + k * 3 + 1 + 1, none⟩ = some (.int .i64 x2) ∧ W.cell? ⟨w.heap.size, 0, none⟩ = some (.int .i64 d.1) ∧ W.cell? ⟨w.heap.size, 1, none⟩ = some (.int .i64 d.2.1) ∧ W.cell? ⟨w.heap.size, 2, none⟩ = some (.int .i64 d.2.2))
        (first | exact KE.out _ ((Below.refl _ _).drew) | exact KX.out)
        (first | (go_at_call 75; refine LS.out.mono ?_; rintro e w2 ⟨rfl, bel2⟩; have B2 : Hid (Below wr.heap.size wr w2) := ((Below.refl _ _).drew).trans bel2; clear bel2; have KX := Lib.hid (KE.out w2 B2.out)))
      obtain ⟨f0, f1, f2, f3, f4, f5⟩ := KX.out
      have B12 : Hid (Below w1.heap.size w1 w2) := BE.out.trans (B2.out.mono szr)
      cases hls : lessD (x0, x1, x2) d with
      | true =>
        have R := Lib.hid (NX.out hls _ B12.out)
        clear SM SI NX hls k0 k1 k2 e0 e1 e2 KX
        go_wp2_with fail
        exact ⟨by simpa using R.out, by simp [RowKit.intOf]; omega⟩
      | false =>
        have heq := eqDepRD x0 x1 x2 d.1 d.2.1 d.2.2
        clear k0 k1 k2 e0 e1 e2 KX NX
        cases hq : (x0 == d.1 && x1 == d.2.1 && x2 == d.2.2) with
        | true =>
          rw [hq] at heq
          have hxd : ((x0, x1, x2) : Dp) = d := by simp only [Bool.and_eq_true, beq_iff_eq] at hq; exact Prod.ext hq.1.1 (Prod.ext hq.1.2 hq.2)
          have F : Hid (∀ n, DPost (insL l d) w (.returned (.slice (some ⟨b1, o1, none⟩) l.length c)) (w2.drewN n)) := fun n => by
            rw [SM.out hls hxd]
            exact ⟨_, _, rfl, hlc, (fun h => by cases h), (H.out.below (Nat.le_refl _) (below_drewN B12.out n)), BW.out.trans ((below_drewN B12.out n).mono BW.out.size)⟩
          clear SM SI hls hxd hq
          go_wp2_with fail
          go_quiet (fail)
          go_wp2_with fail
          go_ret
          exact F.out _
        | false =>
          rw [hq] at heq
          have INS := Lib.hid (SI.out hls (by intro e; rw [← e] at hq; simp at hq))
          clear SM SI hls hq ZB EB RT RD
          have szq := B12.out.size
          have ZB : Hid (∀ n, w1.heap.size ≤ (w2.drewN n).heap.size) := fun n => B12.out.size
          have EB : Hid (∀ n w', ((w2.drewN n).alloc (.cells #[] 34)).grownBy w' (some w2.heap.size) → Below w1.heap.size w1 w') := fun n w' g => ((below_drewN B12.out n).alloc B12.out.size _).grown g (by have := B12.out.size; simp; omega) (fun q e => by injection e with e; have := B12.out.size; omega)
          have RT : Hid (∀ n o, Reads ((w2.drewN n).alloc o) w1.heap.size 3 (some ⟨b1, o1, none⟩) k ((l.take k).flatMap cD)) := fun n o => (((R0.out.takeC k hk).below B12.out).drewN n).alloc B12.out.size o
          have RD : Hid (∀ W, Below w1.heap.size w1 W → Reads W w1.heap.size 3 (if c = k then some ⟨b1, o1, none⟩ else (some ⟨b1, o1, none⟩ : Option Addr).map (·.add (k * 3))) (l.length - k) ((l.drop k).flatMap cD)) := fun W hb => by
            have h1 := (R0.out.cut (k := k) (cap := c) hk hlc).below hb
            rw [flat_dropC] at h1
            exact h1
          rw [Option.map_some] at RD
          simp only [Addr.add_lit] at RD
          have hck0 : ¬ c = k := by omega
          go_wp2_with fail
          go_quiet (fail)
          go_wp2_with (at_builtin; refine wpList_append_any _ rfl (.tmp 34) (.tmp 37) 33 rfl w1.heap.size 34 i0 _ 3 24 Try.underlying33 hi0 hz0 hz1 hz2 rfl (by decide) _ 0 [] rfl (own_mono (own_empty _ 34 3) (ZB.out _)) w1.heap.size (some ⟨b1, o1, none⟩) k _ ((l.take k).flatMap cD) rfl (RT.out _ _) (cD_oneJ _) ?m3ax ?m4ax ?m5ax ?_)
          try (case m3ax => unfold maxLen; omega)
          try (case m4ax => omega)
          try (case m5ax => simp; omega)
          intro v6 w6 own6 gr6 _
          try simp only [Nat.zero_add, List.nil_append] at own6
          have B6 : Hid (Below w1.heap.size w1 w6) := EB.out _ _ gr6
          have OW6 := Lib.hid own6
          obtain ⟨q0, q1, q2, _⟩ := KC.out w6 B6.out
          have sz6 := B6.out.size
          clear own6 gr6
          go_wp2_with (at_builtin; refine wpList_append_any _ rfl (.tmp 39) (.tmp 41) 33 rfl w1.heap.size 34 i0 _ 3 24 Try.underlying33 hi0 hz0 hz1 hz2 rfl (by decide) _ _ _ rfl (OW6.out.alloc _) (w6.heap.size + 1) (some ⟨w6.heap.size, 0, none⟩) 1 1 (cD d) rfl (reads_newC w6 34 #[.int .i64 d.1, .int .i64 d.2.1, .int .i64 d.2.2] rfl) ?m3ay ?m4ay ?m5ay ?m6ay ?_)
          try (case m3ay => intro u hu; simp [cD] at hu; rcases hu with rfl | rfl | rfl <;> rfl)
          try (case m4ay => unfold maxLen; omega)
          try (case m5ay => omega)
          try (case m6ay => simp; omega)
          intro v7 w7 own7 gr7 _
          have B7 : Hid (Below w1.heap.size w1 w7) := (B6.out.alloc sz6 _).grown gr7 (by simp; omega) (fun g e => (OW6.out.lt g e).1)
          have OW7 := Lib.hid own7
          have sz7 := B7.out.size
          clear own7 gr7 q0 q1 q2
          rcases Classical.em (c = k) with hck | hck
          all_goals first | (exfalso; exact hck rfl) | skip
          all_goals
            have RDX := RD.out _ B7.out
            first
              | rw [if_pos hck] at RDX
              | rw [if_neg hck] at RDX
              | skip
            have RDY := Lib.hid RDX
            clear RDX
            go_wp2_with (at_builtin; refine wpList_append_any _ rfl (.tmp 43) (.tmp 46) 33 rfl w1.heap.size 34 i0 _ 3 24 Try.underlying33 hi0 hz0 hz1 hz2 rfl (by decide) _ _ _ rfl OW7.out w1.heap.size _ (l.length - k) _ ((l.drop k).flatMap cD) rfl RDY.out (cD_oneJ _) ?m4az ?m5az ?m6az ?_)
            try (case m4az => unfold maxLen; omega)
            try (case m5az => omega)
            try (case m6az => omega)
            intro v8 w8 own8 gr8 _
            have B8 : Hid (Below w.heap.size w w8) := BW.out.trans ((B7.out.grown gr8 sz7 (fun g e => (OW7.out.lt g e).1)).mono BW.out.size)
            have F : Hid (DPost (insL l d) w (.returned v8) w8) := by
              rw [INS.out]
              refine DPost.of_own (n := k + 1 + (l.length - k)) (base := w1.heap.size) (e := 34) ?_ B8.out
              have e : (l.take k ++ d :: l.drop k).flatMap cD = (l.take k).flatMap cD ++ (cD d ++ (l.drop k).flatMap cD) := by simp
              rw [e]
              first
                | exact own8
                | (rw [List.append_assoc] at own8; exact own8)
            clear own8 gr8
            go_wp2_with fail
            go_ret
            exact F.out
    · have hkl : k = l.length := by omega
      have INS : Hid (insL l d = l.take k ++ d :: l.drop k) := insL_ins HA.out hk (fun h => absurd h hkr) (by rw [List.getElem?_eq_none (by omega)]; simp)
      have szr := bel.size
      have kf : ¬ (k : Int) < (l.length : Int) := by omega
      have kg : decide ((k : Int) < (l.length : Int)) = false := by simp; omega
      clear bel hkl
      cases a with
      | none =>
        obtain rfl := hnc rfl
        obtain rfl : k = 0 := by omega
        have hl0 : l.length = 0 := by omega
        clear RD
        have RD : Hid (∀ W, Below w1.heap.size w1 W → Reads W w1.heap.size 3 none 0 ((l.drop 0).flatMap cD)) := fun W hb => by
          have : l = [] := List.eq_nil_of_length_eq_zero hl0
          subst this
          exact Reads.none_
        clear hnc kg
        go_wp2_with fail
        go_quiet (fail)
        go_wp2_with fail
        go_quiet (fail)
        go_wp2_with (at_builtin; refine wpList_append_any _ rfl (.tmp 34) (.tmp 37) 33 rfl w1.heap.size 34 i0 _ 3 24 Try.underlying33 hi0 hz0 hz1 hz2 rfl (by decide) _ 0 [] rfl (own_mono (own_empty _ 34 3) (ZB.out _)) w1.heap.size none 0 _ ((l.take 0).flatMap cD) rfl (RT.out _ _) (cD_oneJ _) ?m3bx ?m4bx ?m5bx ?_)
        try (case m3bx => unfold maxLen; omega)
        try (case m4bx => omega)
        try (case m5bx => simp; omega)
        intro v6 w6 own6 gr6 _
        try simp only [Nat.zero_add, List.nil_append] at own6
        have B6 : Hid (Below w1.heap.size w1 w6) := EB.out _ _ gr6
        have OW6 := Lib.hid own6
        obtain ⟨q0, q1, q2, _⟩ := KC.out w6 B6.out
        have sz6 := B6.out.size
        clear own6 gr6
        go_wp2_with (at_builtin; refine wpList_append_any _ rfl (.tmp 39) (.tmp 41) 33 rfl w1.heap.size 34 i0 _ 3 24 Try.underlying33 hi0 hz0 hz1 hz2 rfl (by decide) _ _ _ rfl (OW6.out.alloc _) (w6.heap.size + 1) (some ⟨w6.heap.size, 0, none⟩) 1 1 (cD d) rfl (reads_newC w6 34 #[.int .i64 d.1, .int .i64 d.2.1, .int .i64 d.2.2] rfl) ?m3by ?m4by ?m5by ?m6by ?_)
        try (case m3by => intro u hu; simp [cD] at hu; rcases hu with rfl | rfl | rfl <;> rfl)
        try (case m4by => unfold maxLen; omega)
        try (case m5by => omega)
        try (case m6by => simp; omega)
        intro v7 w7 own7 gr7 _
        have B7 : Hid (Below w1.heap.size w1 w7) := (B6.out.alloc sz6 _).grown gr7 (by simp; omega) (fun g e => (OW6.out.lt g e).1)
        have OW7 := Lib.hid own7
        have sz7 := B7.out.size
        clear own7 gr7 q0 q1 q2
        rcases Classical.em (0 = 0) with hck | hck
        all_goals first | (exfalso; exact hck rfl) | skip
        all_goals
          have RDX := RD.out _ B7.out
          first
            | rw [if_pos hck] at RDX
            | rw [if_neg hck] at RDX
            | skip
          have RDY := Lib.hid RDX
          clear RDX
          go_wp2_with (at_builtin; refine wpList_append_any _ rfl (.tmp 43) (.tmp 46) 33 rfl w1.heap.size 34 i0 _ 3 24 Try.underlying33 hi0 hz0 hz1 hz2 rfl (by decide) _ _ _ rfl OW7.out w1.heap.size _ 0 _ ((l.drop 0).flatMap cD) rfl RDY.out (cD_oneJ _) ?m4bz ?m5bz ?m6bz ?_)
          try (case m4bz => unfold maxLen; omega)
          try (case m5bz => omega)
          try (case m6bz => omega)
          intro v8 w8 own8 gr8 _
          have B8 : Hid (Below w.heap.size w w8) := BW.out.trans ((B7.out.grown gr8 sz7 (fun g e => (OW7.out.lt g e).1)).mono BW.out.size)
          have F : Hid (DPost (insL l d) w (.returned v8) w8) := by
            rw [INS.out]
            refine DPost.of_own (n := 0 + 1 + 0) (base := w1.heap.size) (e := 34) ?_ B8.out
            have e : (l.take 0 ++ d :: l.drop 0).flatMap cD = (l.take 0).flatMap cD ++ (cD d ++ (l.drop 0).flatMap cD) := by simp
            rw [e]
            first
              | exact own8
              | (rw [List.append_assoc] at own8; exact own8)
          clear own8 gr8
          go_wp2_with fail
          go_ret
          exact F.out
      | some ad =>
        have kc : (k : Int) ≤ (c : Int) := by omega
        have k0' : (0 : Int) ≤ (k : Int) := by omega
        have kl : k ≤ c := by omega
        rw [Option.map_some] at RD
        clear hnc
        go_wp2_with fail
        go_quiet (fail)
        go_wp2_with fail
        go_quiet (fail)
        go_wp2_with (at_builtin; refine wpList_append_any _ rfl (.tmp 34) (.tmp 37) 33 rfl w1.heap.size 34 i0 _ 3 24 Try.underlying33 hi0 hz0 hz1 hz2 rfl (by decide) _ 0 [] rfl (own_mono (own_empty _ 34 3) (ZB.out _)) w1.heap.size (some ad) k _ ((l.take k).flatMap cD) rfl (RT.out _ _) (cD_oneJ _) ?m3cx ?m4cx ?m5cx ?_)
        try (case m3cx => unfold maxLen; omega)
        try (case m4cx => omega)
        try (case m5cx => simp; omega)
        intro v6 w6 own6 gr6 _
        try simp only [Nat.zero_add, List.nil_append] at own6
        have B6 : Hid (Below w1.heap.size w1 w6) := EB.out _ _ gr6
        have OW6 := Lib.hid own6
        obtain ⟨q0, q1, q2, _⟩ := KC.out w6 B6.out
        have sz6 := B6.out.size
        clear own6 gr6
        go_wp2_with (at_builtin; refine wpList_append_any _ rfl (.tmp 39) (.tmp 41) 33 rfl w1.heap.size 34 i0 _ 3 24 Try.underlying33 hi0 hz0 hz1 hz2 rfl (by decide) _ _ _ rfl (OW6.out.alloc _) (w6.heap.size + 1) (some ⟨w6.heap.size, 0, none⟩) 1 1 (cD d) rfl (reads_newC w6 34 #[.int .i64 d.1, .int .i64 d.2.1, .int .i64 d.2.2] rfl) ?m3cy ?m4cy ?m5cy ?m6cy ?_)
        try (case m3cy => intro u hu; simp [cD] at hu; rcases hu with rfl | rfl | rfl <;> rfl)
        try (case m4cy => unfold maxLen; omega)
        try (case m5cy => omega)
        try (case m6cy => simp; omega)
        intro v7 w7 own7 gr7 _
        have B7 : Hid (Below w1.heap.size w1 w7) := (B6.out.alloc sz6 _).grown gr7 (by simp; omega) (fun g e => (OW6.out.lt g e).1)
        have OW7 := Lib.hid own7
        have sz7 := B7.out.size
        clear own7 gr7 q0 q1 q2
        rcases Classical.em (c = k) with hck | hck
        all_goals first | (exfalso; exact hck rfl) | skip
        all_goals
          have RDX := RD.out _ B7.out
          first
            | rw [if_pos hck] at RDX
            | rw [if_neg hck] at RDX
            | skip
          have RDY := Lib.hid RDX
          clear RDX
          go_wp2_with (at_builtin; refine wpList_append_any _ rfl (.tmp 43) (.tmp 46) 33 rfl w1.heap.size 34 i0 _ 3 24 Try.underlying33 hi0 hz0 hz1 hz2 rfl (by decide) _ _ _ rfl OW7.out w1.heap.size _ (l.length - k) _ ((l.drop k).flatMap cD) rfl RDY.out (cD_oneJ _) ?m4cz ?m5cz ?m6cz ?_)
          try (case m4cz => unfold maxLen; omega)
          try (case m5cz => omega)
          try (case m6cz => omega)
          intro v8 w8 own8 gr8 _
          have B8 : Hid (Below w.heap.size w w8) := BW.out.trans ((B7.out.grown gr8 sz7 (fun g e => (OW7.out.lt g e).1)).mono BW.out.size)
          have F : Hid (DPost (insL l d) w (.returned v8) w8) := by
            rw [INS.out]
            refine DPost.of_own (n := k + 1 + (l.length - k)) (base := w1.heap.size) (e := 34) ?_ B8.out
            have e : (l.take k ++ d :: l.drop k).flatMap cD = (l.take k).flatMap cD ++ (cD d ++ (l.drop k).flatMap cD) := by simp
            rw [e]
            first
              | exact own8
              | (rw [List.append_assoc] at own8; exact own8)
          clear own8 gr8
          go_wp2_with fail
          go_ret
          exact F.out
end Go.Proofs.Ytlhblaemoejefaa
