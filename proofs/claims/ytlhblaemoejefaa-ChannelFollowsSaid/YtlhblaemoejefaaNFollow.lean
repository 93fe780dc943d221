/- The contracts of routes.follow and routes.Follow at the table of a network. -/
import Derived.Test.YtlhblaemoejefaaNB
import Derived.Deep.LoopGhost
namespace Go.Proofs.Ytlhblaemoejefaa
open Go.RowKit Go.Maps
set_option linter.unusedVariables false
set_option linter.unusedSimpArgs false

/-- The cables l lead from a node, with the nodes xs and the phases ps. -/
structure Seg (n : Nat) (cs : List Cb) (lv : List Int) (G : GT) (t a : Nat) (l : List Int) (xs ps : Nat → Nat) : Prop where
  x0 : xs 0 = a
  p0 : ps 0 = 0
  xl : xs l.length < n
  pl : ps l.length < 2
  st : ∀ k, k < l.length → xs k < n ∧ ps k < 2 ∧ ∃ i : Nat, i < cs.length ∧ l.getD k 0 = i ∧ G (xs k) (ps k) t = i ∧ touch (cs.getD i cb0) (xs k) (xs (k + 1)) ∧ ps (k + 1) = if upB lv (xs k) (xs (k + 1)) = true then ps k else 1
def updN (f : Nat → Nat) (i x : Nat) : Nat → Nat := fun k => if k = i then x else f k
theorem updN_at (f : Nat → Nat) (i x : Nat) : updN f i x i = x := by unfold updN; rw [if_pos rfl]
theorem updN_lt (f : Nat → Nat) {i k : Nat} (x : Nat) (h : k ≠ i) : updN f i x k = f k := by unfold updN; rw [if_neg h]
section
variable {n : Nat} {cs : List Cb} {lv : List Int} {G : GT} {t a : Nat} {l : List Int} {xs ps : Nat → Nat}
theorem Seg.start (ha : a < n) : Seg n cs lv G t a [] (fun _ => a) (fun _ => 0) := ⟨rfl, rfl, ha, by show 0 < 2; omega, fun k hk => by simp at hk⟩
theorem Seg.snoc (h : Seg n cs lv G t a l xs ps) {i v : Nat} (hi : i < cs.length) (hv : v < n) (hG : G (xs l.length) (ps l.length) t = i) (ht : touch (cs.getD i cb0) (xs l.length) v) :
    Seg n cs lv G t a (l ++ [(i : Int)]) (updN xs (l.length + 1) v) (updN ps (l.length + 1) (if upB lv (xs l.length) v = true then ps l.length else 1)) := by
  refine ⟨by rw [updN_lt _ _ (by omega)]; exact h.x0, by rw [updN_lt _ _ (by omega)]; exact h.p0, ?_, ?_, fun k hk => ?_⟩
  · rw [List.length_append, List.length_singleton, updN_at]; exact hv
  · rw [List.length_append, List.length_singleton, updN_at]; have := h.pl; split <;> omega
  · rw [List.length_append, List.length_singleton] at hk
    rw [updN_lt xs v (by omega), updN_lt ps _ (by omega)]
    by_cases e : k = l.length
    · subst e
      rw [updN_at, updN_at]
      refine ⟨h.xl, h.pl, i, hi, by simp [List.getD], hG, ht, rfl⟩
    · have hk' : k < l.length := by omega
      rw [updN_lt xs v (by omega), updN_lt ps _ (by omega)]
      obtain ⟨q1, q2, j, q3, q4, q5, q6, q7⟩ := h.st k hk'
      refine ⟨q1, q2, j, q3, ?_, q5, q6, q7⟩
      rw [← q4]
      simp [List.getD, List.getElem?_append_left hk']
end
/-- How many states have not been reached. -/
def unR (n : Nat) (fl : Nat → Nat → Bool) : Nat := (allS n).countP fun s => !(fl s.1 s.2.toNat)
def setR2 (fl : Nat → Nat → Bool) (x p : Nat) : Nat → Nat → Bool := fun a b => if a = x ∧ b = p then true else fl a b
theorem unR_set {n : Nat} {fl : Nat → Nat → Bool} {x p : Nat} (hx : x < n) (hp : p < 2) (h : fl x p = false) : unR n (setR2 fl x p) < unR n fl := by
  unfold unR
  have hb : ∃ b : Bool, b.toNat = p := by
    rcases (show p = 0 ∨ p = 1 by omega) with rfl | rfl
    · exact ⟨false, rfl⟩
    · exact ⟨true, rfl⟩
  obtain ⟨b, rfl⟩ := hb
  refine count_more _ _ (fun s hs => ?_) (x, b) ?_ ?_ _ (mem_allS.2 hx)
  · unfold setR2 at hs
    split at hs
    · cases hs
    · exact hs
  · unfold setR2; rw [if_pos ⟨rfl, rfl⟩]; rfl
  · show (!fl x b.toNat) = true; rw [h]; rfl
theorem unR_le (n : Nat) (fl : Nat → Nat → Bool) : unR n fl ≤ 2 * n := by unfold unR; have := List.countP_le_length (p := fun s : St => !(fl s.1 s.2.toNat)) (l := allS n); rw [allS_len] at this; exact this
theorem infoArr2B : (Try.prog.info? 132).map (fun i => (i.zero, i.size, i.bytes)) = some (some (.agg #[.bool false, .bool false]), 2, 2) := by kernel_rfl
def FollowPost (n : Nat) (cs : List Cb) (lv : List Int) (G : GT) (a t : Nat) (w : World) (e : Ending) (w' : World) : Prop :=
  Below w.heap.size w w' ∧ ((∃ c : Int, c ≠ 0 ∧ e = .returned (.tuple #[.slice none 0 0, .int .i64 c])) ∨
    ∃ l xs ps v, Seg n cs lv G t a l xs ps ∧ xs l.length = t ∧ l.length ≤ 1000 ∧ e = .returned (.tuple #[v, .int .i64 0]) ∧ w'.ownsRow w.heap.size 3 1 v l.length (l.flatMap cI))
def RelFo (w1 : World) (n : Nat) (cs : List Cb) (lv : List Int) (G : GT) (a t g : Nat) (gh : Nat) (v xv pv : Value) (wr : World) : Prop :=
  ∃ l xs ps fl, Seg n cs lv G t a l xs ps ∧ xv = .int .i64 ((xs l.length : Nat) : Int) ∧ pv = .int .i64 ((ps l.length : Nat) : Int) ∧ unR n fl = gh ∧ l.length + gh ≤ 2 * n ∧
    wr.ownsRow w1.heap.size 3 1 v l.length (l.flatMap cI) ∧ RBlk wr g 132 2 n (fun i => [.bool (fl i 0), .bool (fl i 1)]) ∧ Below w1.heap.size w1 wr
theorem own_ne {w : World} {base : Nat} {e : TypeId} {size : Nat} {v : Value} {n : Nat} {xs : List Value} {g : Nat} {t : TypeId} {m k : Nat} {c : Nat → List Value} (h : w.ownsRow base e size v n xs) (hr : RBlk w g t m k c) (hne : e ≠ t) : ∀ q, v.ownBlock = some q → q ≠ g := by
  intro q hq
  rcases h.2 with ⟨rfl, _⟩ | ⟨g', cap, cur, rfl, _, hg, _⟩
  · simp [Value.ownBlock] at hq
  · simp [Value.ownBlock] at hq
    subst hq
    rintro rfl
    obtain ⟨arr, hb, _⟩ := hr
    have hb' : w.heap[g']? = some (.cells arr t (0, 0)) := hb
    rw [hg] at hb'
    injection hb' with hb'
    injection hb' with _ h2
    exact hne h2
theorem setR2_row {w : World} {g n x p : Nat} {fl : Nat → Nat → Bool} (h : RBlk w g 132 2 n (fun i => [.bool (fl i 0), .bool (fl i 1)])) (hx : x < n) (hp : p < 2) :
    RBlk (w.setCell ⟨g, x * 2 + p, none⟩ (.bool true)) g 132 2 n (fun i => [.bool (setR2 fl x p i 0), .bool (setR2 fl x p i 1)]) := by
  refine (h.set_ hx hp (.bool true)).congr fun i hi => ?_
  unfold setR setR2
  by_cases e : i = x
  · subst e
    rw [if_pos rfl]
    rcases (show p = 0 ∨ p = 1 by omega) with rfl | rfl <;> simp
  · simp [e]
set_option maxRecDepth 100000 in
set_option maxHeartbeats 8000000 in
theorem follow_any (ns : List Nd) (cs : List Cb) (us : List Bool) (lv : List Int) (G : GT) (An Ac Al At : Option Addr) (cn cc cl ct a t : Nat) (w : World) (hnet : Net ns cs us lv G) (ha : a < ns.length) (ht : t < ns.length)
    (h : IsPlan w An Ac ⟨ns, cs⟩) (h3 : IsRec 1 cI 0 w Al lv.length lv) (h4 : IsTab w At ns.length (tabOf ns.length G)) :
    Calls Try.prog 66 #[.agg #[.slice An ns.length cn, .slice Ac cs.length cc], .agg #[.slice Al lv.length cl], .agg #[.slice At ns.length ct], .int .i64 (a : Int), .int .i64 (t : Int)] w (FollowPost ns.length cs lv G a t w) := by
  obtain ⟨n16, c32⟩ := valid_sizes hnet.valid
  obtain ⟨w1, hw1⟩ : ∃ w1 : World, ((w.alloc (.cells #[.slice An ns.length cn, .slice Ac cs.length cc] 40)).alloc (.cells #[.slice Al lv.length cl] 51)).alloc (.cells #[.slice At ns.length ct] 54) = w1 := ⟨_, rfl⟩
  have BW : Hid (Below w.heap.size w w1) := by rw [← hw1]; exact (((Below.refl _ _).alloc (Nat.le_refl _) _).alloc (by simp) _).alloc (by simp; omega) _
  have P5 : Hid (Blk w1 w.heap.size 40 #[.slice An ns.length cn, .slice Ac cs.length cc]) := by
    rw [← hw1]; exact ((Blk.new w 40 #[.slice An ns.length cn, .slice Ac cs.length cc]).alloc _).alloc _
  have P6 : Hid (Blk w1 (w.heap.size + 1) 51 #[.slice Al lv.length cl]) := by
    rw [← hw1]
    have := (Blk.new (w.alloc (.cells #[.slice An ns.length cn, .slice Ac cs.length cc] 40)) 51 #[.slice Al lv.length cl]).alloc (.cells #[.slice At ns.length ct] 54)
    rw [Hid]; simpa using this
  have P7 : Hid (Blk w1 (w.heap.size + 1 + 1) 54 #[.slice At ns.length ct]) := by
    rw [← hw1]
    have := Blk.new ((w.alloc (.cells #[.slice An ns.length cn, .slice Ac cs.length cc] 40)).alloc (.cells #[.slice Al lv.length cl] 51)) 54 #[.slice At ns.length ct]
    rw [Hid]; simpa using this
  have KC : Hid (∀ W, Below w1.heap.size w1 W → W.cell? ⟨w.heap.size, 0, none⟩ = some (.slice An ns.length cn) ∧ W.cell? ⟨w.heap.size, 1, none⟩ = some (.slice Ac cs.length cc) ∧ W.cell? ⟨w.heap.size + 1, 0, none⟩ = some (.slice Al lv.length cl) ∧ W.cell? ⟨w.heap.size + 1 + 1, 0, none⟩ = some (.slice At ns.length ct) ∧
      w.heap.size + 1 + 1 < W.heap.size ∧ Below w.heap.size w W ∧ IsPlan W An Ac ⟨ns, cs⟩ ∧ IsRec 1 cI 0 W Al lv.length lv ∧ IsTab W At ns.length (tabOf ns.length G)) := fun W hW => by
    have p5 := P5.out.below hW P5.out.lt
    have p6 := P6.out.below hW P6.out.lt
    have p7 := P7.out.below hW P7.out.lt
    have bw := BW.out.trans (hW.mono BW.out.size)
    exact ⟨by rw [p5.cell]; rfl, by rw [p5.cell]; rfl, p6.one.1, p7.one.1, p7.lt, bw, h.below (Nat.le_refl _) bw, h3.below (Nat.le_refl _) bw, h4.below (Nat.le_refl _) bw⟩
  have sw1 := (KC.out w1 (Below.refl _ _)).2.2.2.2.1
  obtain ⟨c0, _⟩ := KC.out w1 (Below.refl _ _)
  obtain ⟨o4, ho4⟩ : ∃ o4, Obj.cells (madeCells #[.bool false, .bool false] (ns.length * 2)) 132 = o4 := ⟨_, rfl⟩
  obtain ⟨w3, hw3⟩ : ∃ w3 : World, (w1.alloc (.cells #[] 3)).alloc o4 = w3 := ⟨_, rfl⟩
  have sze : w1.heap.size = w.heap.size + 1 + 1 + 1 := by rw [← hw1]; simp
  obtain ⟨g, hgg⟩ : ∃ g, w.heap.size + 1 + 1 + 1 + 1 = g := ⟨_, rfl⟩
  have hwg : w1.heap.size ≤ g := by omega
  have ST : Hid (RelFo w1 ns.length cs lv G a t g (unR ns.length (fun _ _ => false)) (.slice (some ⟨w.heap.size + 1 + 1 + 1, 0, none⟩) 0 0) (.int .i64 (a : Int)) (.int .i64 0) w3) := by
    refine ⟨[], fun _ => a, fun _ => 0, fun _ _ => false, Seg.start ha, rfl, rfl, rfl, by have := unR_le ns.length (fun _ _ => false); simpa using this, ?_, ?_, ?_⟩
    · rw [← hw3]
      have h0 : (w1.alloc (.cells #[] 3)).ownsRow w1.heap.size 3 1 (.slice (some ⟨w1.heap.size, 0, none⟩) 0 0) 0 [] :=
        ⟨rfl, .inr ⟨w1.heap.size, 0, #[], rfl, Nat.le_refl _, heap_alloc_new w1 _, Nat.le_refl _, Nat.zero_le _, rfl, rfl⟩⟩
      rw [← sze]
      exact h0.alloc _
    · rw [← hw3, ← ho4]
      have hr := RBlk.made (w1.alloc (.cells #[] 3)) (m := 2) (n := ns.length) (t := 132) (z := #[.bool false, .bool false]) rfl (by decide)
      rw [World.size_alloc, sze, hgg] at hr
      exact hr
    · rw [← hw3]; exact ((Below.refl _ _).alloc (Nat.le_refl _) _).alloc (by simp) _
  have HW3 := Lib.hid hw3
  have HO4 := Lib.hid ho4
  have HW1 := Lib.hid hw1
  have NET := Lib.hid hnet
  have H4 := Lib.hid h4
  obtain ⟨iA, hiA, hzA, hzA1, hzA2⟩ := info_parts infoArr2B
  obtain ⟨iI, hiI0, hzI0, hzI10, hzI20⟩ := info_parts infoInt
  have HIi := Lib.hid hiI0
  have HIz := Lib.hid hzI0
  have HIz1 := Lib.hid hzI10
  have HIz2 := Lib.hid hzI20
  have HGG := Lib.hid hgg
  clear hnet h h3 h4 sze hgg hw1 hw3 ho4 hiI0 hzI0 hzI10 hzI20
  go_enter Try.func66, Try.ntmps66
  go_wp2_with (at_make; refine wpList_make_rec _ rfl _ _ 131 rfl 132 iA _ 2 Try.underlying131 hiA hzA hzA1 .i64 .i64 _ _ ns.length rfl rfl ?m1 ?m2 (by rw [hzA2]; omega) (by unfold maxLen; omega) ?_)
  case m1 => rfl
  case m2 => rfl
  rw [HW1.out, HO4.out, HW3.out, HGG.out]
  clear HW1 HO4 HW3 HGG hiA hzA hzA1 hzA2 c0 P5 P6 P7
  go_loopg [12, 14, 15] (unR ns.length (fun _ _ => false)) (fun gh v xv pv wr => RelFo w1 ns.length cs lv G a t g gh v xv pv wr)
  case atStart => exact ST.out
  case round =>
    clear ST
    obtain ⟨l, xs, ps, fl, seg, rfl, rfl, hgh, hlen, own, rb, bel⟩ := hrel
    have SEG := Lib.hid seg
    have HGH := Lib.hid hgh
    have HLEN := Lib.hid hlen
    obtain ⟨c50, c51, c60, c70, lw, bwr, _, _, _⟩ := KC.out wr bel
    have BWR := Lib.hid bwr
    have hxn := seg.xl
    have hpl := seg.pl
    obtain ⟨x, hx⟩ : ∃ x, xs l.length = x := ⟨_, rfl⟩
    obtain ⟨p, hpx⟩ : ∃ p, ps l.length = p := ⟨_, rfl⟩
    rw [hx] at hxn
    rw [hpx] at hpl
    rw [hx, hpx]
    have hxx := Lib.hid hx
    obtain ⟨bt, ot, a0, cc0, a1, cc1, hAt, hbt, _, q0, q1, r0, r1⟩ := H4.out.at_ x hxn
    have et : (tabOf ns.length G).getD x row0 = (rowG G x 0 ns.length, rowG G x 1 ns.length) := by unfold tabOf; simp [List.getD, hxn]
    rw [et] at q0 q1 r0 r1
    simp only [rowG_len] at q0 q1 r0 r1
    subst hAt
    have hgl := rb.lt
    have p01 : p = 0 ∨ p = 1 := by omega
    clear seg hgh hlen bwr hx et
    rcases p01 with hp0 | hp0
    · subst hp0
      have cfl := rb.cell hxn (show 0 < 2 by omega)
      have ffl : wr.frozen? ⟨g, x * 2 + 0, none⟩ = false := rb.frozen _
      have cfl2 : wr.cell? ⟨g, x * 2, none⟩ = some (.bool (fl x 0)) := by simpa using cfl
      have ffl2 : wr.frozen? ⟨g, x * 2, none⟩ = false := by simpa using ffl
      obtain ⟨bR, oR, hAR, hbR, _, cR⟩ := int_at (show IsRec 1 cI 0 w a0 ns.length (rowG G x 0 ns.length) from r0) t ht
      have eR : (rowG G x 0 ns.length).getD t 0 = G x 0 t := by simp [rowG, List.getD, ht]
      rw [eR] at cR
      subst hAR
      have PS0 := Lib.hid hpx
      cases hfl : fl x 0 with
      | true =>
        rw [hfl] at cfl2
        have F : Hid (FollowPost ns.length cs lv G a t w (.returned (.tuple #[.slice none 0 0, .int .i64 11])) wr) := ⟨BWR.out, .inl ⟨11, by decide, rfl⟩⟩
        clear cfl ffl hfl eR cR q0 q1
        go_wp2_with fail
        go_ret2
        exact F.out
      | false =>
        rw [hfl] at cfl2
        have rb2 := Lib.hid (setR2_row rb hxn (show 0 < 2 by omega))
        have HUN := Lib.hid (unR_set hxn (show 0 < 2 by omega) hfl)
        have tx : (x : Int) < (ns.length : Int) := by omega
        have tt' : (t : Int) < (ns.length : Int) := by omega
        have ownw : Hid ((wr.setCell ⟨g, x * 2, none⟩ (.bool true)).ownsRow w1.heap.size 3 1 u12 l.length (l.flatMap cI)) :=
          own_keptJ own (only_setCell (only_refl wr (some g)) (.inl rfl) _) (own_ne own rb (by decide))
        have belw : Hid (Below w1.heap.size w1 (wr.setCell ⟨g, x * 2, none⟩ (.bool true))) := bel.setCell hwg _
        obtain ⟨w4, hw4⟩ : ∃ w4 : World, wr.setCell ⟨g, x * 2, none⟩ (.bool true) = w4 := ⟨_, rfl⟩
        have hoff : wr.setCell ⟨g, x * 2 + 0, none⟩ (.bool true) = w4 := by rw [← hw4]; rfl
        rw [hw4] at ownw belw
        rw [hoff] at rb2
        obtain ⟨d50, d51, d60, d70, lw4, bwr4, pl4, lv4, _⟩ := KC.out w4 belw.out
        have dq : w4.cell? ⟨bt, ot + x * 2, none⟩ = some (.slice (some ⟨bR, oR, none⟩) ns.length cc0) := (bwr4.cell (p := ⟨bt, ot + x * 2, none⟩) hbt).trans (by simpa using q0)
        have dR : w4.cell? ⟨bR, oR + t, none⟩ = some (.int .i64 (G x 0 t)) := (bwr4.cell (p := ⟨bR, oR + t, none⟩) hbR).trans cR
        have BW4 := Lib.hid bwr4
        have PL4 := Lib.hid pl4
        have LV4 := Lib.hid lv4
        obtain ⟨f, hfound, hent⟩ := NET.out.col t ht
        have hE := hent x 0 hxn (by omega)
        clear cfl ffl hfl eR cR hoff q0 q1 bwr4 pl4 lv4 c50 c51 c60 c70
        rcases hE with ⟨hxt, hc⟩ | ⟨hxt, ⟨hc, _⟩ | ⟨i, hi, hc, hfit⟩⟩
        · rw [hc] at dR
          have F : Hid (FollowPost ns.length cs lv G a t w (.returned (.tuple #[u12, .int .i64 0])) w4) :=
            ⟨BW4.out, .inr ⟨l, xs, ps, u12, SEG.out, by rw [hxx.out]; exact hxt, by have := HLEN.out; omega, rfl, own_mono ownw.out (BW.out.size)⟩⟩
          clear own rb bel hxt hc
          go_wp2_with fail
          go_ret2
          exact F.out
        · rw [hc] at dR
          have F : Hid (FollowPost ns.length cs lv G a t w (.returned (.tuple #[.slice none 0 0, .int .i64 12])) w4) := ⟨BW4.out, .inl ⟨12, by decide, rfl⟩⟩
          clear own rb bel hxt hc
          go_wp2_with fail
          go_ret2
          exact F.out
        · rw [hc] at dR
          have HC := Lib.hid hc
          clear own rb bel hxt hc
          obtain ⟨vv, hvv, htv⟩ := fit_touch NET.out.valid hi hfit
          have m1 : cs.getD i cb0 ∈ cs := by simp [List.getD, hi]
          have AC := Lib.hid (across_touch htv (valid_abG NET.out.valid _ m1))
          have HTV := Lib.hid htv
          have hvn := Lib.hid hvv
          have FIT := Lib.hid hfit
          have OWA := Lib.hid (ownw.out.alloc (.cells #[.int .i64 (i : Int)] 3))
          have BELA : Hid (Below w1.heap.size w1 (w4.alloc (.cells #[.int .i64 (i : Int)] 3))) := belw.out.alloc belw.out.size _
          have RBA := Lib.hid (rb2.out.alloc (.cells #[.int .i64 (i : Int)] 3))
          have OG : Hid (∀ q, u12.ownBlock = some q → w1.heap.size ≤ q) := fun q e => (ownw.out.lt q e).1
          have ONE : Hid (∀ q, u12.ownBlock = some q → q ≠ g) := own_ne ownw.out rb2.out (by decide)
          have hi0 : (0 : Int) ≤ (i : Int) := by omega
          clear hvv htv m1 hfit hfound hent
          go_wp2_with (at_builtin; refine wpList_append_own_at _ rfl _ _ 49 rfl w1.heap.size 3 iI _ 1 8 Try.underlying49 HIi.out HIz.out HIz1.out HIz2.out rfl (by decide) _ _ _ rfl OWA.out ⟨w4.heap.size, 0, none⟩ 1 1 [.int .i64 (i : Int)] rfl rfl ?e01 ?e02 ?e03 ?e04 ?e05 ?_)
          case e01 => intro j u hu; cases j <;> simp at hu; subst hu; simp [Addr.add, go_sem]
          case e02 => intro u hu; simp at hu; subst hu; rfl
          case e03 => have := HLEN.out; unfold maxLen; omega
          case e04 => have := HLEN.out; omega
          case e05 => exact BELA.out.size
          intro v' w6 own6 gr6 _ loc6
          have BEL6 : Hid (Below w1.heap.size w1 w6) := BELA.out.grown gr6 BELA.out.size OG.out
          have RB6 := Lib.hid (RBA.out.grown gr6 (fun e => ONE.out g e.symm rfl))
          have OW6 := Lib.hid own6
          obtain ⟨d50, d51, d60, d70, lw6, _, pl6, lv6, _⟩ := KC.out w6 BEL6.out
          obtain ⟨bc, oc, hAc, hbc, _, ca, cap', cb, cbp, cd, ccp⟩ := cable_at pl6.2 i hi
          have HA := across_any (cs.getD i cb0) (x : Int) w6
          rw [AC.out] at HA
          obtain ⟨y1, hy1⟩ : ∃ y, cs.getD i cb0 = y := ⟨_, rfl⟩
          rw [hy1] at ca cap' cb cbp cd ccp HA
          have HAA := Lib.hid HA
          subst hAc
          have iw : (i : Int) < (cs.length : Int) := by omega
          clear hy1 HA own6 gr6 loc6 pl6 lv6 dq dR cfl2 ffl2
          go_wp2_with fail
          refine HAA.out.mono ?_
          rintro e w7 ⟨rfl, bel7⟩
          have BEL7 : Hid (Below w1.heap.size w1 w7) := BEL6.out.trans (bel7.mono BEL6.out.size)
          have RB7 := Lib.hid (RB6.out.below bel7 RB6.out.lt)
          have OW7 := Lib.hid (OW6.out.kept (only_of_below bel7 none) (by cases v'.ownBlock with
            | none => exact .inl rfl
            | some q => exact .inr (by simp)))
          clear bel7 d50 d51 d60 d70 lw6 ca cap' cb cbp cd ccp hbc HAA
          obtain ⟨d50, d51, d60, d70, lw7, _, _, lv7, _⟩ := KC.out w7 BEL7.out
          have hll := NET.out.len
          have HAB := Lib.hid (above_any lv Al cl (vv : Int) (x : Int) w7 (by omega) lv7)
          clear lv7 hll
          go_wp2_with fail
          refine HAB.out.mono ?_
          rintro e w8 ⟨rfl, bel8⟩
          have BEL8 : Hid (Below w1.heap.size w1 w8) := BEL7.out.trans (bel8.mono BEL7.out.size)
          have RB8 := Lib.hid (RB7.out.below bel8 RB7.out.lt)
          have OW8 := Lib.hid (OW7.out.kept (only_of_below bel8 none) (by cases v'.ownBlock with
            | none => exact .inl rfl
            | some q => exact .inr (by simp)))
          clear bel8 d50 d51 d60 d70 lw7 HAB
          have SG := Lib.hid (SEG.out.snoc hi hvn.out (by rw [hxx.out, PS0.out]; exact HC.out) (by rw [hxx.out]; exact HTV.out))
          rw [hxx.out, PS0.out] at SG
          have UB : Hid (aboveB lv (vv : Int) (x : Int) = upB lv x vv) := rfl
          have R : Hid (∀ pp : Nat, (if upB lv x vv = true then 0 else 1) = pp → RelFo w1 ns.length cs lv G a t g (unR ns.length (setR2 fl x 0)) v' (.int .i64 (vv : Int)) (.int .i64 (pp : Int)) w8) := fun pp hpp => by
            refine ⟨l ++ [(i : Int)], _, _, setR2 fl x 0, SG.out, ?_, ?_, rfl, ?_, ?_, RB8.out, BEL8.out⟩
            · rw [List.length_append, List.length_singleton, updN_at]
            · rw [List.length_append, List.length_singleton, updN_at, ← hpp]
            · have h1 := HLEN.out; have h2 := HGH.out; have h3 := HUN.out
              rw [List.length_append, List.length_singleton]; omega
            · rw [List.length_append, List.length_singleton, List.flatMap_append]
              exact OW8.out
          rw [UB.out]
          have LT : Hid (unR ns.length (setR2 fl x 0) < gk) := by rw [Hid]; have h2 := HGH.out; have h3 := HUN.out; omega
          cases hub : upB lv x vv with
          | true =>
            have R2 := Lib.hid (R.out 0 (by rw [hub]; rfl))
            clear R hub
            go_wp2_with fail
            go_roundg (unR ns.length (setR2 fl x 0))
            case rel => exact R2.out
            case measure => exact LT.out
          | false =>
            have R2 := Lib.hid (R.out 1 (by rw [hub]; rfl))
            clear R hub
            go_wp2_with fail
            go_roundg (unR ns.length (setR2 fl x 0))
            case rel => exact R2.out
            case measure => exact LT.out
    · subst hp0
      have cfl := rb.cell hxn (show 1 < 2 by omega)
      have ffl : wr.frozen? ⟨g, x * 2 + 1, none⟩ = false := rb.frozen _
      have cfl2 : wr.cell? ⟨g, x * 2 + 1, none⟩ = some (.bool (fl x 1)) := by simpa using cfl
      have ffl2 : wr.frozen? ⟨g, x * 2 + 1, none⟩ = false := by simpa using ffl
      obtain ⟨bR, oR, hAR, hbR, _, cR⟩ := int_at (show IsRec 1 cI 0 w a1 ns.length (rowG G x 1 ns.length) from r1) t ht
      have eR : (rowG G x 1 ns.length).getD t 0 = G x 1 t := by simp [rowG, List.getD, ht]
      rw [eR] at cR
      subst hAR
      have PS0 := Lib.hid hpx
      cases hfl : fl x 1 with
      | true =>
        rw [hfl] at cfl2
        have F : Hid (FollowPost ns.length cs lv G a t w (.returned (.tuple #[.slice none 0 0, .int .i64 11])) wr) := ⟨BWR.out, .inl ⟨11, by decide, rfl⟩⟩
        clear cfl ffl hfl eR cR q0 q1
        go_wp2_with fail
        go_ret2
        exact F.out
      | false =>
        rw [hfl] at cfl2
        have rb2 := Lib.hid (setR2_row rb hxn (show 1 < 2 by omega))
        have HUN := Lib.hid (unR_set hxn (show 1 < 2 by omega) hfl)
        have tx : (x : Int) < (ns.length : Int) := by omega
        have tt' : (t : Int) < (ns.length : Int) := by omega
        have ownw : Hid ((wr.setCell ⟨g, x * 2 + 1, none⟩ (.bool true)).ownsRow w1.heap.size 3 1 u12 l.length (l.flatMap cI)) :=
          own_keptJ own (only_setCell (only_refl wr (some g)) (.inl rfl) _) (own_ne own rb (by decide))
        have belw : Hid (Below w1.heap.size w1 (wr.setCell ⟨g, x * 2 + 1, none⟩ (.bool true))) := bel.setCell hwg _
        obtain ⟨w4, hw4⟩ : ∃ w4 : World, wr.setCell ⟨g, x * 2 + 1, none⟩ (.bool true) = w4 := ⟨_, rfl⟩
        have hoff : wr.setCell ⟨g, x * 2 + 1, none⟩ (.bool true) = w4 := by rw [← hw4]
        rw [hw4] at ownw belw
        rw [hoff] at rb2
        obtain ⟨d50, d51, d60, d70, lw4, bwr4, pl4, lv4, _⟩ := KC.out w4 belw.out
        have dq : w4.cell? ⟨bt, ot + x * 2 + 1, none⟩ = some (.slice (some ⟨bR, oR, none⟩) ns.length cc1) := (bwr4.cell (p := ⟨bt, ot + x * 2 + 1, none⟩) hbt).trans (by simpa using q1)
        have dR : w4.cell? ⟨bR, oR + t, none⟩ = some (.int .i64 (G x 1 t)) := (bwr4.cell (p := ⟨bR, oR + t, none⟩) hbR).trans cR
        have BW4 := Lib.hid bwr4
        have PL4 := Lib.hid pl4
        have LV4 := Lib.hid lv4
        obtain ⟨f, hfound, hent⟩ := NET.out.col t ht
        have hE := hent x 1 hxn (by omega)
        clear cfl ffl hfl eR cR hoff q0 q1 bwr4 pl4 lv4 c50 c51 c60 c70
        rcases hE with ⟨hxt, hc⟩ | ⟨hxt, ⟨hc, _⟩ | ⟨i, hi, hc, hfit⟩⟩
        · rw [hc] at dR
          have F : Hid (FollowPost ns.length cs lv G a t w (.returned (.tuple #[u12, .int .i64 0])) w4) :=
            ⟨BW4.out, .inr ⟨l, xs, ps, u12, SEG.out, by rw [hxx.out]; exact hxt, by have := HLEN.out; omega, rfl, own_mono ownw.out (BW.out.size)⟩⟩
          clear own rb bel hxt hc
          go_wp2_with fail
          go_ret2
          exact F.out
        · rw [hc] at dR
          have F : Hid (FollowPost ns.length cs lv G a t w (.returned (.tuple #[.slice none 0 0, .int .i64 12])) w4) := ⟨BW4.out, .inl ⟨12, by decide, rfl⟩⟩
          clear own rb bel hxt hc
          go_wp2_with fail
          go_ret2
          exact F.out
        · rw [hc] at dR
          have HC := Lib.hid hc
          clear own rb bel hxt hc
          obtain ⟨vv, hvv, htv⟩ := fit_touch NET.out.valid hi hfit
          have m1 : cs.getD i cb0 ∈ cs := by simp [List.getD, hi]
          have AC := Lib.hid (across_touch htv (valid_abG NET.out.valid _ m1))
          have HTV := Lib.hid htv
          have hvn := Lib.hid hvv
          have FIT := Lib.hid hfit
          have OWA := Lib.hid (ownw.out.alloc (.cells #[.int .i64 (i : Int)] 3))
          have BELA : Hid (Below w1.heap.size w1 (w4.alloc (.cells #[.int .i64 (i : Int)] 3))) := belw.out.alloc belw.out.size _
          have RBA := Lib.hid (rb2.out.alloc (.cells #[.int .i64 (i : Int)] 3))
          have OG : Hid (∀ q, u12.ownBlock = some q → w1.heap.size ≤ q) := fun q e => (ownw.out.lt q e).1
          have ONE : Hid (∀ q, u12.ownBlock = some q → q ≠ g) := own_ne ownw.out rb2.out (by decide)
          have hi0 : (0 : Int) ≤ (i : Int) := by omega
          clear hvv htv m1 hfit hfound hent
          go_wp2_with (at_builtin; refine wpList_append_own_at _ rfl _ _ 49 rfl w1.heap.size 3 iI _ 1 8 Try.underlying49 HIi.out HIz.out HIz1.out HIz2.out rfl (by decide) _ _ _ rfl OWA.out ⟨w4.heap.size, 0, none⟩ 1 1 [.int .i64 (i : Int)] rfl rfl ?e11 ?e12 ?e13 ?e14 ?e15 ?_)
          case e11 => intro j u hu; cases j <;> simp at hu; subst hu; simp [Addr.add, go_sem]
          case e12 => intro u hu; simp at hu; subst hu; rfl
          case e13 => have := HLEN.out; unfold maxLen; omega
          case e14 => have := HLEN.out; omega
          case e15 => exact BELA.out.size
          intro v' w6 own6 gr6 _ loc6
          have BEL6 : Hid (Below w1.heap.size w1 w6) := BELA.out.grown gr6 BELA.out.size OG.out
          have RB6 := Lib.hid (RBA.out.grown gr6 (fun e => ONE.out g e.symm rfl))
          have OW6 := Lib.hid own6
          obtain ⟨d50, d51, d60, d70, lw6, _, pl6, lv6, _⟩ := KC.out w6 BEL6.out
          obtain ⟨bc, oc, hAc, hbc, _, ca, cap', cb, cbp, cd, ccp⟩ := cable_at pl6.2 i hi
          have HA := across_any (cs.getD i cb0) (x : Int) w6
          rw [AC.out] at HA
          obtain ⟨y1, hy1⟩ : ∃ y, cs.getD i cb0 = y := ⟨_, rfl⟩
          rw [hy1] at ca cap' cb cbp cd ccp HA
          have HAA := Lib.hid HA
          subst hAc
          have iw : (i : Int) < (cs.length : Int) := by omega
          clear hy1 HA own6 gr6 loc6 pl6 lv6 dq dR cfl2 ffl2
          go_wp2_with fail
          refine HAA.out.mono ?_
          rintro e w7 ⟨rfl, bel7⟩
          have BEL7 : Hid (Below w1.heap.size w1 w7) := BEL6.out.trans (bel7.mono BEL6.out.size)
          have RB7 := Lib.hid (RB6.out.below bel7 RB6.out.lt)
          have OW7 := Lib.hid (OW6.out.kept (only_of_below bel7 none) (by cases v'.ownBlock with
            | none => exact .inl rfl
            | some q => exact .inr (by simp)))
          clear bel7 d50 d51 d60 d70 lw6 ca cap' cb cbp cd ccp hbc HAA
          obtain ⟨d50, d51, d60, d70, lw7, _, _, lv7, _⟩ := KC.out w7 BEL7.out
          have hll := NET.out.len
          have HAB := Lib.hid (above_any lv Al cl (vv : Int) (x : Int) w7 (by omega) lv7)
          clear lv7 hll
          go_wp2_with fail
          refine HAB.out.mono ?_
          rintro e w8 ⟨rfl, bel8⟩
          have BEL8 : Hid (Below w1.heap.size w1 w8) := BEL7.out.trans (bel8.mono BEL7.out.size)
          have RB8 := Lib.hid (RB7.out.below bel8 RB7.out.lt)
          have OW8 := Lib.hid (OW7.out.kept (only_of_below bel8 none) (by cases v'.ownBlock with
            | none => exact .inl rfl
            | some q => exact .inr (by simp)))
          clear bel8 d50 d51 d60 d70 lw7 HAB
          have SG := Lib.hid (SEG.out.snoc hi hvn.out (by rw [hxx.out, PS0.out]; exact HC.out) (by rw [hxx.out]; exact HTV.out))
          rw [hxx.out, PS0.out] at SG
          have UB : Hid (aboveB lv (vv : Int) (x : Int) = upB lv x vv) := rfl
          have R : Hid (∀ pp : Nat, (if upB lv x vv = true then 1 else 1) = pp → RelFo w1 ns.length cs lv G a t g (unR ns.length (setR2 fl x 1)) v' (.int .i64 (vv : Int)) (.int .i64 (pp : Int)) w8) := fun pp hpp => by
            refine ⟨l ++ [(i : Int)], _, _, setR2 fl x 1, SG.out, ?_, ?_, rfl, ?_, ?_, RB8.out, BEL8.out⟩
            · rw [List.length_append, List.length_singleton, updN_at]
            · rw [List.length_append, List.length_singleton, updN_at, ← hpp]
            · have h1 := HLEN.out; have h2 := HGH.out; have h3 := HUN.out
              rw [List.length_append, List.length_singleton]; omega
            · rw [List.length_append, List.length_singleton, List.flatMap_append]
              exact OW8.out
          rw [UB.out]
          have LT : Hid (unR ns.length (setR2 fl x 1) < gk) := by rw [Hid]; have h2 := HGH.out; have h3 := HUN.out; omega
          cases hub : upB lv x vv with
          | true =>
            have R2 := Lib.hid (R.out 1 (by rw [hub]; rfl))
            clear R hub
            go_wp2_with fail
            go_roundg (unR ns.length (setR2 fl x 1))
            case rel => exact R2.out
            case measure => exact LT.out
          | false =>
            have R2 := Lib.hid (R.out 1 (by rw [hub]; rfl))
            clear R hub
            go_wp2_with fail
            go_roundg (unR ns.length (setR2 fl x 1))
            case rel => exact R2.out
            case measure => exact LT.out
set_option maxRecDepth 100000 in
set_option maxHeartbeats 4000000 in
theorem Follow_any (ns : List Nd) (cs : List Cb) (us : List Bool) (lv : List Int) (G : GT) (An Ac Al At : Option Addr) (cn cc cl ct a t : Nat) (w : World) (hnet : Net ns cs us lv G) (ha : a < ns.length) (ht : t < ns.length)
    (hwf : WfP ⟨ns, cs⟩) (hwl : WfI lv) (h : IsPlan w An Ac ⟨ns, cs⟩) (h3 : IsRec 1 cI 0 w Al lv.length lv) (h4 : IsTab w At ns.length (tabOf ns.length G)) :
    Calls Try.prog 36 #[.agg #[.slice An ns.length cn, .slice Ac cs.length cc], .agg #[.slice Al lv.length cl], .agg #[.slice At ns.length ct], .int .i64 (a : Int), .int .i64 (t : Int)] w (FollowPost ns.length cs lv G a t w) := by
  obtain ⟨n16, c32⟩ := valid_sizes hnet.valid
  have hll := hnet.len
  obtain ⟨w1, hw1⟩ : ∃ w1 : World, ((w.alloc (.cells #[.slice An ns.length cn, .slice Ac cs.length cc] 40)).alloc (.cells #[.slice Al lv.length cl] 51)).alloc (.cells #[.slice At ns.length ct] 54) = w1 := ⟨_, rfl⟩
  have BW : Hid (Below w.heap.size w w1) := by rw [← hw1]; exact (((Below.refl _ _).alloc (Nat.le_refl _) _).alloc (by simp) _).alloc (by simp; omega) _
  have P5 : Hid (Blk w1 w.heap.size 40 #[.slice An ns.length cn, .slice Ac cs.length cc]) := by
    rw [← hw1]; exact ((Blk.new w 40 #[.slice An ns.length cn, .slice Ac cs.length cc]).alloc _).alloc _
  have P6 : Hid (Blk w1 (w.heap.size + 1) 51 #[.slice Al lv.length cl]) := by
    rw [← hw1]
    have := (Blk.new (w.alloc (.cells #[.slice An ns.length cn, .slice Ac cs.length cc] 40)) 51 #[.slice Al lv.length cl]).alloc (.cells #[.slice At ns.length ct] 54)
    rw [Hid]; simpa using this
  have P7 : Hid (Blk w1 (w.heap.size + 1 + 1) 54 #[.slice At ns.length ct]) := by
    rw [← hw1]
    have := Blk.new ((w.alloc (.cells #[.slice An ns.length cn, .slice Ac cs.length cc] 40)).alloc (.cells #[.slice Al lv.length cl] 51)) 54 #[.slice At ns.length ct]
    rw [Hid]; simpa using this
  have KC : Hid (∀ W, Below w1.heap.size w1 W → W.cell? ⟨w.heap.size, 0, none⟩ = some (.slice An ns.length cn) ∧ W.cell? ⟨w.heap.size, 1, none⟩ = some (.slice Ac cs.length cc) ∧ W.cell? ⟨w.heap.size + 1, 0, none⟩ = some (.slice Al lv.length cl) ∧ W.cell? ⟨w.heap.size + 1 + 1, 0, none⟩ = some (.slice At ns.length ct) ∧
      Below w.heap.size w W ∧ IsPlan W An Ac ⟨ns, cs⟩ ∧ IsRec 1 cI 0 W Al lv.length lv ∧ IsTab W At ns.length (tabOf ns.length G)) := fun W hW => by
    have p5 := P5.out.below hW P5.out.lt
    have p6 := P6.out.below hW P6.out.lt
    have p7 := P7.out.below hW P7.out.lt
    have bw := BW.out.trans (hW.mono BW.out.size)
    exact ⟨by rw [p5.cell]; rfl, by rw [p5.cell]; rfl, p6.one.1, p7.one.1, bw, h.below (Nat.le_refl _) bw, h3.below (Nat.le_refl _) bw, h4.below (Nat.le_refl _) bw⟩
  have HO := order_any ⟨ns, cs⟩ lv An Ac Al cn cc cl w1 (by show ns.length ≤ _; omega) (by show cs.length ≤ _; omega) hwf (by omega) hwl (h.below (Nat.le_refl _) BW.out) (h3.below (Nat.le_refl _) BW.out)
  rw [hnet.ord] at HO
  have HOO := Lib.hid HO
  have HT : Hid (∀ W, Below w1.heap.size w1 W → Calls Try.prog 33 #[.agg #[.slice An ns.length cn, .slice Ac cs.length cc], .agg #[.slice At ns.length ct]] W fun e w' => e = .returned (.bool true) ∧ Below W.heap.size W w') := fun W hW => by
    have := table_any ⟨ns, cs⟩ (tabOf ns.length G) An Ac At cn cc ct W (by show ns.length ≤ _; omega) (by show cs.length ≤ _; omega) hwf (by rw [tabOf_len]; omega) (KC.out W hW).2.2.2.2.2.1 (by rw [tabOf_len]; exact (KC.out W hW).2.2.2.2.2.2.2)
    rw [hnet.table, tabOf_len] at this
    exact this
  have NET := Lib.hid hnet
  have HW1 := Lib.hid hw1
  clear hnet hwf hwl h h3 h4 HO hw1 hll
  go_enter Try.func36, Try.ntmps36
  go_wp2_with fail
  rw [HW1.out]
  refine HOO.out.mono ?_
  rintro e w2 ⟨rfl, bel⟩
  have B2 := Lib.hid bel
  obtain ⟨c0, c1, c2, c3, _⟩ := KC.out w2 B2.out
  clear bel HOO HW1
  go_wp2_with fail
  refine (HT.out w2 B2.out).mono ?_
  rintro e w3 ⟨rfl, bel⟩
  have B3 : Hid (Below w1.heap.size w1 w3) := B2.out.trans (bel.mono B2.out.size)
  clear bel c0 c1 c2 c3
  obtain ⟨c0, c1, c2, c3, bw3, p3, r3, t3⟩ := KC.out w3 B3.out
  have HF := Lib.hid (follow_any ns cs us lv G An Ac Al At cn cc cl ct a t w3 NET.out ha ht p3 r3 t3)
  have BW3 := Lib.hid bw3
  have a0 : (0 : Int) ≤ (a : Int) := by omega
  have a1 : (a : Int) < (ns.length : Int) := by omega
  have t0 : (0 : Int) ≤ (t : Int) := by omega
  have t1 : (t : Int) < (ns.length : Int) := by omega
  clear p3 r3 t3 bw3
  go_wp2_with fail
  refine HF.out.mono ?_
  rintro e w4 ⟨bel4, ⟨c, hc, rfl⟩ | ⟨l, xs, ps, v, hs, hx, hl, rfl, own⟩⟩
  · have F : Hid (FollowPost ns.length cs lv G a t w (.returned (.tuple #[.slice none 0 0, .int .i64 c])) w4) := ⟨BW3.out.trans (bel4.mono BW3.out.size), .inl ⟨c, hc, rfl⟩⟩
    clear bel4 hc HF
    go_wp2_with fail
    go_ret2
    exact F.out
  · have F : Hid (FollowPost ns.length cs lv G a t w (.returned (.tuple #[v, .int .i64 0])) w4) := ⟨BW3.out.trans (bel4.mono BW3.out.size), .inr ⟨l, xs, ps, v, hs, hx, hl, rfl, own_mono own BW3.out.size⟩⟩
    clear bel4 hs hx hl own HF
    go_wp2_with fail
    go_ret2
    exact F.out
section
variable {ns : List Nd} {cs : List Cb} {us : List Bool} {lv : List Int} {G : GT} {t a : Nat} {l : List Int} {xs ps : Nat → Nat}
theorem Seg.xn {n : Nat} (h : Seg n cs lv G t a l xs ps) {k : Nat} (hk : k ≤ l.length) : xs k < n ∧ ps k < 2 := by
  by_cases e : k = l.length
  · rw [e]; exact ⟨h.xl, h.pl⟩
  · exact ⟨(h.st k (by omega)).1, (h.st k (by omega)).2.1⟩
/-- Two channels of a path, one behind the other, are a dependency. -/
theorem Net.follows (hn : Net ns cs us lv G) (h : Seg ns.length cs lv G t a l xs ps) (ht : t < ns.length) {k : Nat} (hk : k + 1 < l.length) :
    (leavV cs (l.getD k 0) (xs k : Nat), leavV cs (l.getD (k + 1) 0) (xs (k + 1) : Nat), ((xs (k + 1) : Nat) : Int)) ∈ depsD ⟨ns, cs⟩ lv (tabOf ns.length G) := by
  obtain ⟨n16, c32⟩ := valid_sizes hn.valid
  obtain ⟨hx, hp, i, hi, el, eG, ht1, ep⟩ := h.st k (by omega)
  obtain ⟨hv, hp2, i2, hi2, el2, eG2, ht2, _⟩ := h.st (k + 1) (by omega)
  have hy := (h.xn (k := k + 1 + 1) (by omega)).1
  have m1 : cs.getD i cb0 ∈ cs := by simp [List.getD, hi]
  have m2 : cs.getD i2 cb0 ∈ cs := by simp [List.getD, hi2]
  obtain ⟨q1, q2, q3, q4⟩ := leav_ends hi c32 ht1 (valid_abG hn.valid _ m1)
  rw [el, el2]
  obtain ⟨f, hf, hall, hne, j, hj, ej, fj⟩ := hn.entry hx hp ht (by rw [eG]; omega)
  have hji : j = i := by rw [eG] at ej; omega
  subst hji
  obtain ⟨l1, up1, dn1⟩ := fit_spec ht1 (valid_abG hn.valid _ m1) hv fj
  have lev : ∀ s : St, 0 ≤ dI (f s) → 0 ≤ lv.getD s.1 0 := fun s hs => by
    obtain ⟨d, hd, _⟩ := dI_some hs
    exact ((found_some hf hd).1.sup _ _ hd).2.1
  have levu : 0 ≤ lv.getD (xs k) 0 := lev (xs k, ps k == 1) (by omega)
  have levv : 0 ≤ lv.getD (xs (k + 1)) 0 := by
    cases hup : upB lv (xs k) (xs (k + 1)) with
    | true => exact lev (xs (k + 1), false) (by have := (up1 hup).2; omega)
    | false => exact lev (xs (k + 1), true) (by have := dn1 hup; omega)
  obtain ⟨c, hc⟩ : ∃ c : Nat, leavV cs (j : Int) (xs k : Nat) = c := ⟨(leavV cs (j : Int) (xs k : Nat)).toNat, by omega⟩
  rw [hc] at q1 q2 q3 q4 ⊢
  unfold depsD
  rw [(sortD_perm _).mem_iff, mem_setOfD]
  unfold depA
  rw [List.mem_flatMap]
  refine ⟨c, List.mem_range.2 (by show c < 2 * cs.length; omega), ?_⟩
  have hneg : ¬ (lvAt lv (chEnds cs (c : Int)).1 < 0 ∨ lvAt lv (chEnds cs (c : Int)).2 < 0) := by
    rw [q3]
    simp only [lvAt, Int.toNat_natCast]
    omega
  unfold depC
  rw [if_neg hneg]
  have key : (( (c : Int), leavV cs (i2 : Int) (xs (k + 1) : Nat), ((xs (k + 1) : Nat) : Int)) : Dp) ∈ depTo cs lv (tabOf ns.length G) c (ps k) ns.length := by
    unfold depTo
    rw [List.mem_flatMap]
    refine ⟨t, List.mem_range.2 ht, ?_⟩
    have haf : aftV lv (xs k : Nat) (xs (k + 1) : Nat) (ps k) = ps (k + 1) := by
      rw [ep]
      unfold aftV
      rw [show aboveB lv ((xs (k + 1) : Nat) : Int) ((xs k : Nat) : Int) = upB lv (xs k) (xs (k + 1)) from rfl]
      cases upB lv (xs k) (xs (k + 1)) with
      | false => simp
      | true =>
        rcases (show ps k = 0 ∨ ps k = 1 by omega) with e | e <;> simp [e]
    unfold depT
    rw [q3]
    simp only
    rw [haf, tabOf_get G hx hp ht, tabOf_get G hv hp2 ht, eG, eG2]
    rw [if_pos]
    · exact List.mem_singleton.2 rfl
    · simp only [Bool.and_eq_true, beq_iff_eq, decide_eq_true_eq]
      refine ⟨by omega, by omega⟩
  rw [List.mem_append]
  rcases (show ps k = 0 ∨ ps k = 1 by omega) with e | e
  · rw [e] at key; exact .inl key
  · rw [e] at key; exact .inr key
end
end Go.Proofs.Ytlhblaemoejefaa
