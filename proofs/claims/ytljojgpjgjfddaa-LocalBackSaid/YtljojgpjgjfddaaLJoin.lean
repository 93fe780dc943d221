/- The contract of local.Join: the dependencies of all parts in the order of their nodes, and the rank of each channel; or the error of Agree. -/
import Derived.Test.YtljojgpjgjfddaaLLaw
import Derived.Test.YtljojgpjgjfddaaLRange
namespace Go.Proofs.Ytljojgpjgjfddaa
open Go.RowKit Go.Maps
set_option linter.unusedVariables false

/-- The rank of a channel once the parts are laid one over the other. -/
def joinRk (ps : List Pt) (c : Int) : Int := ps.foldl (fun acc x => (lookE x.ranks c).getD acc) 0
def joinR (n : Nat) (ps : List Pt) : List Int := (List.range n).map fun (c : Nat) => joinRk ps (c : Int)
def joinD (ps : List Pt) : List Dp := ps.flatMap (·.deps)
theorem joinRk_snoc (ps : List Pt) (k : Nat) (h : k < ps.length) (c : Int) : joinRk (ps.take (k + 1)) c = (lookE (ps.getD k pt0).ranks c).getD (joinRk (ps.take k) c) := by
  rw [take_snocG pt0 ps k h]; unfold joinRk; rw [List.foldl_append]; rfl
theorem joinD_snoc (ps : List Pt) (k : Nat) (h : k < ps.length) : joinD (ps.take (k + 1)) = joinD (ps.take k) ++ (ps.getD k pt0).deps := by
  rw [take_snocG pt0 ps k h]; unfold joinD; rw [List.flatMap_append, List.flatMap_singleton]
theorem joinD_le (ps : List Pt) (k : Nat) : (joinD (ps.take k)).length ≤ (joinD ps).length := by
  have e : joinD ps = joinD (ps.take k) ++ joinD (ps.drop k) := by unfold joinD; rw [← List.flatMap_append, List.take_append_drop]
  rw [e, List.length_append]; omega
theorem agr_ok {p : Pl} {xs : List Pt} (h : agreeErr p xs = 0) : validP p = 0 ∧ arrErr p.ns xs = 0 ∧ formB p.cs (arrL p.ns.length xs) = true ∧ sumB p.cs (arrL p.ns.length xs) = true := by
  unfold agreeErr at h
  split at h
  · exact absurd h (by decide)
  · rename_i h1
    split at h
    · rename_i h2; exact absurd h h2
    · rename_i h2
      split at h
      · exact absurd h (by decide)
      · rename_i h3
        split at h
        · exact absurd h (by decide)
        · rename_i h4
          exact ⟨Decidable.not_not.1 h1, Decidable.not_not.1 h2, by simpa using h3, by simpa using h4⟩
theorem form_key {cs : List Cb} {ps : List Pt} (h : formB cs ps = true) {k : Nat} (hk : k < ps.length) {x : Int} (hx : x ∈ keysE (ps.getD k pt0).ranks) : 0 ≤ x ∧ x < 2 * cs.length := by
  unfold formB at h
  have h2 := of_decide_eq_true (List.all_eq_true.1 h k (List.mem_range.2 hk))
  have h3 : x ∈ sortE (ps.getD k pt0).ranks := by unfold sortE; exact (List.mergeSort_perm _ _).mem_iff.2 hx
  rw [h2] at h3
  have := mem_chansAt.1 h3
  exact ⟨this.1, this.2.1⟩
theorem look_at {H : Type} {D : DataW H} {E : Ens} (h : Ents D E) {x c : Int} (ha : ∀ zd, D.atKey (.int .i64 x) zd = .lit (.int .i64 c)) : lookE E x = some c := by
  have h1 := h.at_ x (.lit (.int .i64 (c + 1)))
  rw [ha] at h1
  cases hl : lookE E x with
  | none => rw [hl] at h1; simp at h1; omega
  | some v => rw [hl] at h1; simp at h1; rw [h1]

/-- The ranks while a part's map is walked: what is left has not been laid yet. -/
def midR (E : Ens) (left : Lit → Bool) (acc : Int → Int) (c : Int) : Int := if left (.int .i64 c) = true then acc c else (lookE E c).getD (acc c)
theorem midR_start {H : Type} {D : DataW H} {E : Ens} (h : Ents D E) (acc : Int → Int) (c : Int) : midR E (Maps.has D) acc c = acc c := by
  unfold midR
  rw [h.has_ c]
  cases hl : lookE E c <;> simp
theorem midR_end {E : Ens} {left : Lit → Bool} (h : ∀ kl, left kl = false) (acc : Int → Int) (c : Int) : midR E left acc c = (lookE E c).getD (acc c) := by
  unfold midR; rw [if_neg (by rw [h]; simp)]
theorem midR_step {E : Ens} {left : Lit → Bool} {x v : Int} (hx : lookE E x = some v) (acc : Int → Int) (c : Int) : midR E (fun z => left z && !z.sameKey (.int .i64 x)) acc c = if c = x then v else midR E left acc c := by
  unfold midR
  by_cases e : c = x
  · subst e
    have : (Lit.int .i64 c).sameKey (.int .i64 c) = true := by simp [Lit.sameKey]
    rw [if_pos rfl, if_neg (by simp [this]), hx]; rfl
  · rw [if_neg e]
    have : (Lit.int .i64 c).sameKey (.int .i64 x) = false := by simp [Lit.sameKey, e]
    simp [this]

def JoinPost (p : Pl) (xs : List Pt) (w : World) (e : Ending) (w' : World) : Prop :=
  Below w.heap.size w w' ∧ ((agreeErr p xs ≠ 0 ∧ e = .returned (.tuple #[.slice none 0 0, .slice none 0 0, .int .i64 (agreeErr p xs)])) ∨
    (agreeErr p xs = 0 ∧ ∃ v g, e = .returned (.tuple #[v, .slice (some ⟨g, 0, none⟩) (2 * p.cs.length) (2 * p.cs.length), .int .i64 0]) ∧
      w'.ownsRow w.heap.size 49 3 v (joinD (arrL p.ns.length xs)).length ((joinD (arrL p.ns.length xs)).flatMap cD) ∧
      w.heap.size ≤ g ∧ RBlk w' g 3 1 (2 * p.cs.length) (fun c => [.int .i64 (joinRk (arrL p.ns.length xs) c)])))
/-- After k parts. -/
def RelJ (ps : List Pt) (n2 : Nat) (w3 : World) (v i : Value) (wr : World) : Prop :=
  ∃ k : Nat, k ≤ ps.length ∧ i = .int .i64 k ∧ wr.ownsRow (w3.heap.size + 1) 49 3 v (joinD (ps.take k)).length ((joinD (ps.take k)).flatMap cD) ∧
    RBlk wr w3.heap.size 3 1 n2 (fun c => [.int .i64 (joinRk (ps.take k) c)]) ∧ Below w3.heap.size w3 wr
theorem own_keptJ {w w' : World} {base : Nat} {e : TypeId} {size n g : Nat} {v : Value} {xs : List Value} (h : w.ownsRow base e size v n xs) (hg : w.grownBy w' (some g)) (hne : ∀ q, v.ownBlock = some q → q ≠ g) : w'.ownsRow base e size v n xs :=
  h.kept hg (by
    cases hb : v.ownBlock with
    | none => exact .inl rfl
    | some q => exact .inr (by intro e; first | (injection e with e; exact hne q hb e) | (injection e with e; exact hne q hb e.symm)))
theorem cD_len3 (x : Dp) : (cD x).length = 3 := rfl
theorem cD_oneJ (l : List Dp) : ∀ u ∈ l.flatMap cD, u.oneCell' = true := by
  intro u hu
  rw [List.mem_flatMap] at hu
  obtain ⟨d, _, hd⟩ := hu
  simp only [cD, List.mem_cons, List.not_mem_nil, or_false] at hd
  rcases hd with rfl | rfl | rfl <;> rfl

set_option maxRecDepth 100000 in
set_option maxHeartbeats 8000000 in
theorem join_any (p : Pl) (An Ac Al : Option Addr) (cn cc cl : Nat) (xs : List Pt) (w : World) (hl : p.ns.length ≤ 1000000) (hl2 : p.cs.length ≤ 1000000) (hwf : WfP p) (hlx : xs.length ≤ 1000000) (hsm : smallMaps xs) (hjd : (joinD (arrL p.ns.length xs)).length ≤ 1000000) (h : IsPlan w An Ac p) (hx : IsParts w Al xs.length xs) :
    Calls Try.prog 14 #[.agg #[.slice An p.ns.length cn, .slice Ac p.cs.length cc], .slice Al xs.length cl] w (JoinPost p xs w) := by
  obtain ⟨ns, cs⟩ := p
  simp only at hl hl2 hjd ⊢
  have HW := Lib.hid hwf
  have HSM := Lib.hid hsm
  obtain ⟨w1, hw1⟩ : ∃ w1 : World, w.alloc (.cells #[.slice An ns.length cn, .slice Ac cs.length cc] 25) = w1 := ⟨_, rfl⟩
  have s0 : w1.cell? ⟨w.heap.size, 0, none⟩ = some (.slice An ns.length cn) := by rw [← hw1]; simp [go_sem]
  have s1 : w1.cell? ⟨w.heap.size, 1, none⟩ = some (.slice Ac cs.length cc) := by rw [← hw1]; simp [go_sem]
  have sz1 : w.heap.size < w1.heap.size := by rw [← hw1]; simp
  have H1 : Hid (IsPlan w1 An Ac ⟨ns, cs⟩) := by rw [Hid, ← hw1]; exact h.alloc _
  have BW : Hid (Below w.heap.size w w1) := by rw [Hid, ← hw1]; exact (Below.refl _ _).alloc (Nat.le_refl _) _
  have X1 := Lib.hid (hx.below (Nat.le_refl _) BW.out)
  have HW1 := Lib.hid hw1
  clear h hx hw1 hwf hsm
  obtain ⟨i0, hi0, hz0, hz1, hz2⟩ := info_parts infoDep
  obtain ⟨j0, hj0, hy0, hy1, hy2⟩ := info_parts infoInt
  go_enter Try.func14, Try.ntmps14
  go_wp2_with fail
  rw [HW1.out]
  refine (lagree_any ⟨ns, cs⟩ An Ac Al cn cc cl xs _ hl hl2 HW.out hlx HSM.out H1.out X1.out).mono ?_
  rintro e w3 ⟨bel3, ⟨hne, rfl⟩ | ⟨he, g, rfl, hp⟩⟩
  · have F : Hid (JoinPost ⟨ns, cs⟩ xs w (.returned (.tuple #[.slice none 0 0, .slice none 0 0, .int .i64 (agreeErr ⟨ns, cs⟩ xs)])) w3) := ⟨BW.out.trans (bel3.mono (by omega)), .inl ⟨hne, rfl⟩⟩
    generalize agreeErr ⟨ns, cs⟩ xs = er at *
    have q1 : (er != 0) = true := by simpa using hne
    clear bel3 s0 s1 hne
    go_wp2_with fail
    go_ret3
    exact F.out
  · have FB := Lib.hid (agr_ok he).2.2.1
    have HE := Lib.hid he
    have hpl : (arrL ns.length xs).length = ns.length := by simp [arrL]
    have BW3 := Lib.hid (BW.out.trans (bel3.mono (by omega)))
    have t0 : w3.cell? ⟨w.heap.size, 0, none⟩ = some (.slice An ns.length cn) := by rw [bel3.cell (by exact sz1)]; exact s0
    have t1 : w3.cell? ⟨w.heap.size, 1, none⟩ = some (.slice Ac cs.length cc) := by rw [bel3.cell (by exact sz1)]; exact s1
    have X3 := Lib.hid hp
    have bs3 := bel3.size
    clear bel3 s0 s1 he hp X1 H1
    obtain ⟨ps, hps⟩ : ∃ ps, arrL ns.length xs = ps := ⟨_, rfl⟩
    simp only at X3 FB
    rw [hps] at X3 FB hpl hjd
    have HPS := Lib.hid hps
    have LP := Lib.hid hpl
    clear hps hpl
    obtain ⟨o4, ho4⟩ : ∃ o4, Obj.cells (madeCells #[.int .i64 0] (2 * cs.length)) 3 = o4 := ⟨_, rfl⟩
    have HO4 := Lib.hid ho4
    clear ho4
    have hmul : IntKind.i64.wrap (2 * (cs.length : Int)) = 2 * (cs.length : Int) := IntWalk.i64_in _ (by omega)
    go_wp2_with (at_make; refine wpList_make_rec _ rfl _ _ 36 rfl 3 j0 _ 1 Try.underlying36 hj0 hy0 hy1 .i64 .i64 _ _ (2 * cs.length) rfl rfl ?m1 ?m2 (by rw [hy2]; omega) (by unfold maxLen; omega) ?_)
    case m1 => omega
    case m2 => omega
    rw [HO4.out]
    obtain ⟨w4, hw4⟩ : ∃ w4 : World, w3.alloc o4 = w4 := ⟨_, rfl⟩
    have ST : Hid (RelJ ps (2 * cs.length) w3 (.slice none 0 0) (.int .i64 0) w4) := by
      refine ⟨0, Nat.zero_le _, rfl, World.ownsRow_nil _ _ _ _, ?_, ?_⟩
      · rw [← hw4, ← HO4.out]
        have := RBlk.made w3 (m := 1) (n := 2 * cs.length) (t := 3) (z := #[.int .i64 0]) rfl (by decide)
        rw [Nat.mul_one] at this
        exact this.congr fun i hi => rfl
      · rw [← hw4]; exact (Below.refl _ _).alloc (Nat.le_refl _) _
    rw [hw4]
    clear hw4 HO4 t0 t1 hmul hj0 hy0 hy1 hy2
    go_wp2_with fail
    go_loopw [9, 31] (fun v i wr => RelJ ps (2 * cs.length) w3 v i wr) (fun _ i _ => ns.length - (RowKit.intOf i).toNat)
    case atStart => exact ST.out
    case round =>
      clear ST
      obtain ⟨k, hk, rfl, own, rb, bel⟩ := hrel
      have bs := bel.size
      have gl := rb.lt
      have hlp := LP.out
      by_cases hkr : k < ns.length
      · obtain ⟨bb, off, ad, cd, m, ha, hbb, hmem, c0, c1, c2, rc, im⟩ := (X3.out.below (Nat.le_refl _) bel).at_ k hkr
        injection ha with ha
        injection ha with ha1 ha2
        subst ha1
        subst ha2
        rw [Nat.zero_add] at c0 c1 c2
        have FK : Hid (∀ x, x ∈ keysE (ps.getD k pt0).ranks → 0 ≤ x ∧ x < 2 * cs.length) := fun x hx => form_key FB.out (by omega) hx
        have DS := Lib.hid (joinD_snoc ps k (by omega))
        have RS := Lib.hid (joinRk_snoc ps k (by omega))
        have DL := Lib.hid (joinD_le ps (k + 1))
        generalize ps.getD k pt0 = x at *
        generalize hxd : x.deps = xd at *
        generalize hxr : x.ranks = E at *
        generalize x.node = xn at *
        clear hmem hxd hxr
        have OG : Hid (∀ g, u9.ownBlock = some g → w3.heap.size + 1 ≤ g) := fun g e => (own.lt g e).1
        have hdl : (joinD (ps.take k)).length + xd.length ≤ 1000000 := by
          have h1 := DL.out
          rw [DS.out, List.length_append] at h1
          omega
        have RD : Hid (Reads (wr.alloc (.cells #[.int .i64 xn, .slice ad xd.length cd, .map m] 32)) wr.heap.size 3 ad xd.length (xd.flatMap cD)) := (reads_of_rec cD_len3 rc).alloc (Nat.le_refl _) _
        have RB := Lib.hid rb
        have IMM := Lib.hid im
        clear rb rc im
        go_wp2_with (first | (at_builtin; refine wpList_append_any _ rfl (.tmp 35) (.tmp 37) 29 rfl (w3.heap.size + 1) 49 i0 _ 3 24 Try.underlying29 hi0 hz0 hz1 hz2 rfl (by decide) _ _ _ rfl (own.alloc _) wr.heap.size ad xd.length cd (xd.flatMap cD) rfl RD.out (cD_oneJ xd) ?c3 ?c4 ?c5 ?_))
        case c3 => unfold maxLen; omega
        case c4 => omega
        try (case c5 => simp; omega)
        intro v5 w5 own5 gr5 hvb
        have OL : Hid (∀ g, u9.ownBlock = some g → g < wr.heap.size) := fun g e => (own.lt g e).2
        have cc0 : (wr.alloc (.cells #[.int .i64 xn, .slice ad xd.length cd, .map m] 32)).cell? ⟨wr.heap.size, 2, none⟩ = some (.map m) := by simp [go_sem]
        have cc5 : w5.cell? ⟨wr.heap.size, 2, none⟩ = some (.map m) := by
          rw [gr5.cell_far ⟨wr.heap.size, 2, none⟩ (by simp) (fun e => by have := OL.out _ e.symm; simp at this)]; exact cc0
        have RB5 : Hid (RBlk w5 w3.heap.size 3 1 (2 * cs.length) (fun c => [.int .i64 (joinRk (ps.take k) c)])) := (RB.out.alloc _).grown gr5 (fun e => by have := OG.out _ e.symm; omega)
        have bel5 : Hid (Below w3.heap.size w3 w5) := (bel.alloc bs _).grown gr5 (by simp; omega) (fun g e => by have := OG.out _ e; omega)
        have OG5 : Hid (∀ g, v5.ownBlock = some g → w3.heap.size + 1 ≤ g ∧ g < w5.heap.size) := fun g e => own5.lt g e
        have OWN5 : Hid (w5.ownsRow (w3.heap.size + 1) 49 3 v5 (joinD (ps.take (k + 1))).length ((joinD (ps.take (k + 1))).flatMap cD)) := by
          rw [Hid, DS.out, List.length_append, List.flatMap_append]; exact own5
        have gs5 := gr5.size
        rcases IMM.out with ⟨rfl, hE⟩ | ⟨b, rfl, hmb⟩
        · have hrg := run_range_nilMap (P := Try.prog) w5 30 3 3 Try.underlying30
          have hnx : ∀ ty, (Instr.next (.pointer (some ⟨w5.heap.size, 0, none⟩)) false ty).run Try.prog (w5.alloc (.mapIter none 0 #[] 0)) = _ := fun ty => run_next_nilMap w5 ty 0 0 #[]
          have R : Hid (RelJ ps (2 * cs.length) w3 v5 (.int .i64 ((k + 1 : Nat) : Int)) (w5.alloc (.mapIter none 0 #[] 0))) := by
            refine ⟨k + 1, by omega, rfl, OWN5.out.alloc _, (RB5.out.alloc _).congr fun i hi => ?_, bel5.out.alloc bel5.out.size _⟩
            rw [RS.out, hE]; rfl
          clear own own5 gr5 bel RB IMM hE cc0
          go_wp2
          refine wp_loop_rounds 1 ?_
          rw [rounds_succ]
          go_wp2_with fail
          exact ⟨by simpa using R.out, by simp [RowKit.intOf]; omega⟩
        · have NBO : Hid (some b ≠ u9.ownBlock) := hmb.ne_own own
          have hm5 : IM w5 b E := (hmb.alloc _).kept gr5 NBO.out
          have NG : Hid (b ≠ w3.heap.size) := by obtain ⟨arr, hbk, _⟩ := RB5.out; exact hm5.ne_blk hbk
          have hbl := hm5.lt
          obtain ⟨HT, D, hown, hents⟩ := hm5
          have HEN := Lib.hid hents
          clear own own5 gr5 bel RB IMM hmb hents cc0
          go_wp2_with (first
            | (at_range; refine wpList_range_own _ rfl _ 30 rfl 3 3 (int_keyed Try.underlying3) Try.underlying30 _ b _ _ rfl hown ?_; intro w6 hrg0 hg0 hs0)
            | go_in)
          go_frame
          go_loopw [13] (fun _ wx => ∃ (left : Lit → Bool) (cnt : Nat), wx.ranges Try.prog 3 (plainElem Try.prog 3) b w5.heap.size E.length D left cnt ∧ RBlk wx w3.heap.size 3 1 (2 * cs.length) (fun c => [.int .i64 (midR E left (joinRk (ps.take k)) c)]) ∧ wx.ownsRow (w3.heap.size + 1) 49 3 v5 (joinD (ps.take (k + 1))).length ((joinD (ps.take (k + 1))).flatMap cD) ∧ Below w3.heap.size w3 wx)
            (fun _ wx => wx.rangeLeft b w5.heap.size)
          case atStart =>
            refine ⟨_, _, hrg0, (RB5.out.grown hg0 (by simp)).congr fun i hi => by rw [midR_start HEN.out], OWN5.out.kept hg0 (Classical.em _), bel5.out.grown hg0 bel5.out.size (by simp)⟩
          case round =>
            obtain ⟨left, cnt, hrg, rbx, ownx, belx⟩ := hrel
            have bsx := belx.size
            have RBX := Lib.hid rbx
            have OWNX := Lib.hid ownx
            have BX := Lib.hid belx
            clear hown hrg0 hg0 hs0 rbx ownx belx cc5
            go_wp2_with (first
              | (at_next; refine wpList_next_ranges_ii _ rfl _ rfl 3 3 .i64 .i64 (int_keyed Try.underlying3) Try.underlying3 Try.underlying3 b w5.heap.size E.length _ _ _ rfl hrg ?_ ?_)
              | go_in)
            · intro _ hl0
              have R : Hid (RelJ ps (2 * cs.length) w3 v5 (.int .i64 ((k + 1 : Nat) : Int)) wr) := ⟨k + 1, by omega, rfl, OWNX.out, RBX.out.congr fun i hi => by rw [midR_end hl0, RS.out], BX.out⟩
              clear hrg hl0
              go_wp2_with fail
              exact ⟨by simpa using R.out, by simp [RowKit.intOf]; omega⟩
            · intro x c wy cnt1 hwx hwc hlx hat hrg1 hlt hg1 hs1 hen
              have hlk := look_at HEN.out hat
              obtain ⟨hx0, hx1⟩ := FK.out x (lookE_some.1 (by rw [hlk]; rfl))
              obtain ⟨xn, rfl⟩ : ∃ xn : Nat, x = xn := ⟨x.toNat, by omega⟩
              have hxn : xn < 2 * cs.length := by omega
              have hgl5 := RB5.out.lt
              have RBY : Hid (RBlk wy w3.heap.size 3 1 (2 * cs.length) (fun c => [.int .i64 (midR E left (joinRk (ps.take k)) c)])) := RBX.out.grown hg1 (by simp; omega)
              have cy : wy.cell? ⟨w3.heap.size, xn, none⟩ = some (.int .i64 (midR E left (joinRk (ps.take k)) xn)) := by
                have := RBY.out.cell (i := xn) (j := 0) hxn (by omega)
                simpa using this
              have fy : wy.frozen? ⟨w3.heap.size, xn, none⟩ = false := RBY.out.frozen _
              have OWNY := Lib.hid (own_keptJ OWNX.out hg1 (fun q hq => by have := (OG5.out q hq).2; omega))
              have BY : Hid (Below w3.heap.size w3 wy) := BX.out.grown hg1 bsx (by intro g' e; injection e with e; omega)
              have gS : Hid (wy.grownBy (wy.setCell ⟨w3.heap.size, xn, none⟩ (.int .i64 c)) (some w3.heap.size)) := only_setCell (only_refl wy (some w3.heap.size)) (.inl rfl) _
              have RGS : Hid ((wy.setCell ⟨w3.heap.size, xn, none⟩ (.int .i64 c)).ranges Try.prog 3 (plainElem Try.prog 3) b w5.heap.size E.length D (fun z => left z && !z.sameKey (.int .i64 (xn : Int))) cnt1) :=
                hrg1.kept gS.out (by have := NG.out; simpa using this) (by simp; omega)
              have RBS : Hid (RBlk (wy.setCell ⟨w3.heap.size, xn, none⟩ (.int .i64 c)) w3.heap.size 3 1 (2 * cs.length) (fun i => [.int .i64 (midR E (fun z => left z && !z.sameKey (.int .i64 (xn : Int))) (joinRk (ps.take k)) i)])) := by
                refine (RBY.out.set1 hxn _).congr fun i hi => ?_
                unfold setR
                rw [midR_step hlk]
                by_cases e : i = xn
                · subst e; simp
                · have : ¬ ((i : Int) = (xn : Int)) := by omega
                  simp [e, this]
              have OWNS := Lib.hid (own_keptJ OWNY.out gS.out (fun q hq => by have := (OG5.out q hq).1; omega))
              have BS : Hid (Below w3.heap.size w3 (wy.setCell ⟨w3.heap.size, xn, none⟩ (.int .i64 c))) := BY.out.grown gS.out BY.out.size (by intro g' e; injection e with e; omega)
              have HRG := Lib.hid hrg
              generalize midR E left (joinRk (ps.take k)) xn = old at cy
              clear hat hs1 hg1 hrg hrg1 hlk hlx hwx hwc gS RBY OWNY BY
              go_wp2_with fail
              go_roundw
              case rel => exact ⟨_, _, RGS.out, RBS.out, OWNS.out, BS.out⟩
              case measure => rw [RGS.out.left_eq, HRG.out.left_eq]; exact hlt
      · obtain rfl : k = ns.length := by omega
        have F : Hid (JoinPost ⟨ns, cs⟩ xs w (.returned (.tuple #[u9, .slice (some ⟨w3.heap.size, 0, none⟩) (2 * cs.length) (2 * cs.length), .int .i64 0])) wr) := by
          have e : ps.take ns.length = ps := List.take_of_length_le (by omega)
          rw [e] at own rb
          refine ⟨BW3.out.trans (bel.mono (by omega)), .inr ⟨HE.out, u9, w3.heap.size, rfl, ?_, by omega, ?_⟩⟩
          · simp only; rw [HPS.out]; exact own_mono own (by omega)
          · simp only; rw [HPS.out]; exact rb
        clear own rb bel
        go_wp2_with fail
        go_ret3
        exact F.out
end Go.Proofs.Ytljojgpjgjfddaa
