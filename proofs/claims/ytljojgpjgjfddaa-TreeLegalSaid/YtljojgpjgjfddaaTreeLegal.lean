/- The walk of the law TreeLegal. -/
import Derived.Test.YtljojgpjgjfddaaTMkS
import Derived.Test.YtljojgpjgjfddaaTOneP
import Derived.Test.YtljojgpjgjfddaaTLeg
import Derived.Test.YtljojgpjgjfddaaFrame
namespace Go.Proofs.Ytljojgpjgjfddaa.treeLegalW
open Go.RowKit Go.Maps Go.Sort Go.Shelf
set_option linter.unusedVariables false
set_option linter.unusedSimpArgs false

def hdsK (cs : List Cb) (out : List (List Int)) (k : Nat) : List Int := (List.range k).flatMap fun u => (out.getD u []).map fun o => (othN cs u o.toNat : Int)
theorem hdsK_succ (cs : List Cb) (out : List (List Int)) (k : Nat) : hdsK cs out (k + 1) = hdsK cs out k ++ (out.getD k []).map fun o => (othN cs k o.toNat : Int) := by
  unfold hdsK; rw [List.range_succ, List.flatMap_append]; simp
theorem hdsK_len (cs : List Cb) (out : List (List Int)) : ∀ k, k ≤ out.length → (hdsK cs out k).length = sumL (out.take k)
  | 0, _ => by simp [hdsK, sumL]
  | k + 1, h => by rw [hdsK_succ, List.length_append, hdsK_len cs out k (by omega), sumL_take out k (by omega), List.length_map]
section
variable {ns : List Nd} {cs : List Cb} {x : Tr} {s : Nat} {r : Nat → Nat}
theorem hds_nodup (V : VT ns cs x s r) (k : Nat) : ((s : Int) :: hdsK cs x.out k).Nodup := by
  have h1 : ∀ k, (hdsK cs x.out k).Nodup ∧ ∀ y ∈ hdsK cs x.out k, ∃ u o, u < k ∧ o ∈ x.out.getD u [] ∧ y = (othN cs u o.toNat : Int) := by
    intro k
    induction k with
    | zero => exact ⟨by simp [hdsK], fun y hy => (by simp [hdsK] at hy)⟩
    | succ k ih =>
      rw [hdsK_succ]
      have gen : ∀ l : List Int, (∀ o ∈ l, o ∈ x.out.getD k []) → l.Nodup → (l.map fun o => (othN cs k o.toNat : Int)).Nodup := by
        intro l
        induction l with
        | nil => intro _ _; exact List.nodup_nil
        | cons o l ihl =>
          intro hm hn
          rw [List.nodup_cons] at hn
          rw [List.map_cons, List.nodup_cons]
          refine ⟨fun hq => ?_, ihl (fun o' ho' => hm o' (List.mem_cons_of_mem _ ho')) hn.2⟩
          obtain ⟨o', ho', e⟩ := List.mem_map.1 hq
          have := (V.I.one k k o' o (hm o' (List.mem_cons_of_mem _ ho')) (hm o (List.mem_cons_self ..)) (by omega)).2
          exact hn.1 (this ▸ ho')
      refine ⟨List.nodup_append.2 ⟨ih.1, gen _ (fun o ho => ho) (V.I.nodup k), fun a ha b hb e => ?_⟩, fun y hy => ?_⟩
      · obtain ⟨u, o, hu, ho, rfl⟩ := ih.2 a ha
        obtain ⟨o', ho', rfl⟩ := List.mem_map.1 hb
        have := (V.I.one u k o o' ho ho' (by omega)).1
        omega
      · rcases List.mem_append.1 hy with hy | hy
        · obtain ⟨u, o, hu, ho, e⟩ := ih.2 y hy
          exact ⟨u, o, by omega, ho, e⟩
        · obtain ⟨o', ho', rfl⟩ := List.mem_map.1 hy
          exact ⟨k, o', by omega, ho', rfl⟩
  refine List.nodup_cons.2 ⟨fun hm => ?_, (h1 k).1⟩
  obtain ⟨u, o, _, ho, e⟩ := (h1 k).2 _ hm
  exact V.top u ⟨o, ho, by omega⟩
end
def litsI (L : List Int) : List Lit := L.map fun x => .int .i64 x
theorem omap_len {w : World} {b n : Nat} {L : List Int} (hnd : L.Nodup) (h : OMap w Try.prog 3 b n (setM (litsI L))) (ty : TypeId) : (Builtin.len_ #[82] ty #[.map (some b)]).run Try.prog w = .ok (.int .i64 L.length) w := by
  obtain ⟨D, hown, hD⟩ := h
  have hl := hown.len Try.underlying82 ty
  obtain ⟨es, hDe, hpw, hkl⟩ := hown.entries (int_keyed Try.underlying3)
  obtain ⟨es', hDe', hko⟩ := hown.keysOf
  obtain rfl : es = es' := by rw [hDe] at hDe'; simpa using hDe'
  have hints : ∀ p ∈ es, ∃ x, p.1 = .int .i64 x := fun p hp => by obtain ⟨v, hv⟩ := hko p hp; obtain ⟨x, _, hx, _⟩ := Maps.keyOf_i64 Try.underlying3 hv; exact ⟨x, hx⟩
  have hperm : L.Perm (intKeys D) := by
    subst hDe
    refine perm_intKeys hpw hints hnd fun x => ?_
    rw [(hD _).1, show setM (litsI L) = setM (intLits L L.length) by unfold litsI intLits; rw [List.take_length], setM_some]
    constructor
    · intro h; exact ⟨x, h, rfl⟩
    · rintro ⟨y, hy, e⟩; injection e with _ e; rw [e]; exact hy
  have h1 := hperm.length_eq
  have h2 : (intKeys D).length = Maps.size D := by subst hDe; rw [size_eq]; simp [intKeys]
  rw [hl, ← h2, ← h1]
def RelKm (n : Nat) (w1 : World) (i : Value) (wr : World) : Prop := ∃ k : Nat, k ≤ n ∧ i = .int .i64 k ∧ w1 = wr
def RelLo (cs : List Cb) (out : List (List Int)) (s bm : Nat) (w9 : World) (c i : Value) (wr : World) : Prop :=
  ∃ k m : Nat, k ≤ out.length ∧ m ≤ 1 + sumL (out.take k) ∧ i = .int .i64 k ∧ c = .int .i64 (sumL (out.take k) : Nat) ∧ OMap wr Try.prog 3 bm m (setM (litsI ((s : Int) :: hdsK cs out k))) ∧ Below w9.heap.size w9 wr
def RelLi (cs : List Cb) (u : Nat) (row L : List Int) (c0 bm : Nat) (w9 : World) (c i : Value) (wr : World) : Prop :=
  ∃ j m : Nat, j ≤ row.length ∧ m ≤ 1 + c0 + j ∧ i = .int .i64 j ∧ c = .int .i64 ((c0 + j : Nat) : Int) ∧ OMap wr Try.prog 3 bm m (setM (litsI (L ++ (row.take j).map fun o => (othN cs u o.toNat : Int)))) ∧ Below w9.heap.size w9 wr
theorem lits_snoc (L : List Int) (y : Int) : putM (setM (litsI L)) (.int .i64 y) (.bool true) = setM (litsI (L ++ [y])) := by
  rw [setM_snoc]; unfold litsI; rw [List.map_append]; rfl
set_option maxRecDepth 100000 in
set_option maxHeartbeats 8000000 in
theorem walk (An Ac : Option Addr) (cn cc : Nat) (p : Pl) (Al : Option Addr) (cl : Nat) (lv : List Int) (src : Int) (Am : Option Addr) (cm : Nat) (ms : List Int) (w : World)
    (h : IsPlan w An Ac p) (hwf : WfP p) (h2 : IsRec 1 cI 0 w Al lv.length lv) (hwl : WfI lv) (h0 : (Lit.int .u8 src).wf = true) (h3 : IsRec 1 cI 0 w Am ms.length ms) (hwm : WfI ms) (hcm : ms.length ≤ cm) :
    Calls Try.prog 9 #[.agg #[.slice An p.ns.length cn, .slice Ac p.cs.length cc], .agg #[.slice Al lv.length cl], .int .u8 src, .slice Am ms.length cm] w fun e w' => e = .returned (.bool true) ∧ Below w.heap.size w w' := by
  obtain ⟨ns, cs⟩ := p
  simp only
  obtain ⟨w1, hw1⟩ : ∃ w1 : World, (w.alloc (.cells #[.slice An ns.length cn, .slice Ac cs.length cc] 25)).alloc (.cells #[.slice Al lv.length cl] 57) = w1 := ⟨_, rfl⟩
  have s0 : w1.cell? ⟨w.heap.size, 0, none⟩ = some (.slice An ns.length cn) := by rw [← hw1]; simp [go_sem]
  have s1 : w1.cell? ⟨w.heap.size, 1, none⟩ = some (.slice Ac cs.length cc) := by rw [← hw1]; simp [go_sem]
  have s2 : w1.cell? ⟨w.heap.size + 1, 0, none⟩ = some (.slice Al lv.length cl) := by rw [← hw1]; simp [go_sem]
  have sz1 : w.heap.size + 1 < w1.heap.size := by rw [← hw1]; simp
  have BW : Hid (Below w.heap.size w w1) := by rw [Hid, ← hw1]; exact ((Below.refl _ _).alloc (Nat.le_refl _) _).alloc (by simp) _
  have H1 := Lib.hid (h.below (Nat.le_refl _) BW.out)
  have L1 := Lib.hid (h2.below (Nat.le_refl _) BW.out)
  have M1 := Lib.hid (h3.below (Nat.le_refl _) BW.out)
  have HWF := Lib.hid hwf
  have HWL := Lib.hid hwl
  have HWM := Lib.hid hwm
  have KC : Hid (∀ w', Below w1.heap.size w1 w' → (w'.cell? ⟨w.heap.size, 0, none⟩ = some (.slice An ns.length cn) ∧ w'.cell? ⟨w.heap.size, 1, none⟩ = some (.slice Ac cs.length cc) ∧ w'.cell? ⟨w.heap.size + 1, 0, none⟩ = some (.slice Al lv.length cl)) ∧
      Below w.heap.size w w' ∧ IsPlan w' An Ac ⟨ns, cs⟩ ∧ IsRec 1 cI 0 w' Al lv.length lv ∧ IsRec 1 cI 0 w' Am ms.length ms) :=
    fun w' hb => ⟨⟨(hb.cell (by show w.heap.size < _; omega)).trans s0, (hb.cell (by show w.heap.size < _; omega)).trans s1, (hb.cell (by exact sz1)).trans s2⟩, BW.out.trans (hb.mono BW.out.size), H1.out.below (Nat.le_refl _) hb, L1.out.below (Nat.le_refl _) hb, M1.out.below (Nat.le_refl _) hb⟩
  have HW1 := Lib.hid hw1
  obtain ⟨a0, a1⟩ := bounds_u8 h0
  obtain ⟨sn, rfl⟩ : ∃ sn : Nat, src = sn := ⟨src.toNat, by omega⟩
  clear h h2 h3 hw1 hwf hwl hwm s0 s1 s2 h0
  go_enter Try.func9, Try.ntmps9
  go_wp2_with fail
  rw [HW1.out]
  refine (awake23_any _).mono ?_
  rintro e w2 ⟨rfl, bel⟩
  have B2 := Lib.hid bel
  obtain ⟨⟨c0, c1, c2⟩, bw, _⟩ := KC.out w2 bel
  have BW2 := Lib.hid bw
  clear bel bw
  cases hsm : smallB ns.length cs.length lv.length ms.length with
  | false =>
    have hz : smallZ ns.length cs.length lv.length ms.length = 0 := by unfold smallZ; rw [hsm]; rfl
    have SC := small23_any An Ac Al Am ns.length cs.length lv.length ms.length cn cc cl cm w2
    rw [hz] at SC
    go_wp2_with fail
    refine (show Calls _ _ _ _ _ from SC).mono ?_
    rintro e w3 ⟨rfl, rfl⟩
    have BF : Hid (Below w.heap.size w (w2.alloc (.cells #[.slice An ns.length cn, .slice Ac cs.length cc] 25))) := BW2.out.alloc BW2.out.size _
    clear SC
    go_wp2_with fail
    go_ret
    exact ⟨rfl, BF.out⟩
  | true =>
    have hz : smallZ ns.length cs.length lv.length ms.length = 1 := by unfold smallZ; rw [hsm]; rfl
    have hb : ns.length ≤ 8 ∧ cs.length ≤ 12 ∧ lv.length ≤ 20 ∧ ms.length ≤ 20 := by
      unfold smallB at hsm
      simp at hsm
      omega
    obtain ⟨bn, bc, bl, bm⟩ := hb
    have SC := small23_any An Ac Al Am ns.length cs.length lv.length ms.length cn cc cl cm w2
    rw [hz] at SC
    go_wp2_with fail
    refine (show Calls _ _ _ _ _ from SC).mono ?_
    rintro e w3 ⟨rfl, hw3⟩
    have B3 : Hid (Below w1.heap.size w1 w3) := by rw [Hid, ← hw3]; exact B2.out.alloc B2.out.size _
    clear SC hw3 hsm hz c0 c1 c2
    obtain ⟨⟨c0, c1, c2⟩, _, pl3, lr3, _⟩ := KC.out w3 B3.out
    have FC := Lib.hid (fits23_any ⟨ns, cs⟩ lv An Ac Al cn cc cl w3 (by show ns.length ≤ _; omega) (by show cs.length ≤ _; omega) HWF.out (by omega) HWL.out pl3 lr3)
    clear pl3 lr3
    go_wp2_with fail
    refine (show Calls _ _ _ _ _ from FC.out).mono ?_
    rintro e w4 ⟨rfl, bel4⟩
    have B4 : Hid (Below w1.heap.size w1 w4) := B3.out.trans (bel4.mono B3.out.size)
    clear bel4 FC c0 c1 c2
    obtain ⟨⟨c0, c1, c2⟩, bw4, pl4, lr4, mr4⟩ := KC.out w4 B4.out
    have BW4 := Lib.hid bw4
    have PL4 := Lib.hid pl4
    have LR4 := Lib.hid lr4
    have MR4 := Lib.hid mr4
    clear bw4 pl4 lr4 mr4
    cases ho : orderB ⟨ns, cs⟩ lv with
    | false =>
      go_wp2_with fail
      go_ret
      exact ⟨rfl, BW4.out⟩
    | true =>
      by_cases hn0 : ns.length = 0
      · have q1 : ((ns.length : Int) == 0) = true := by simp [hn0]
        clear hn0
        go_wp2_with fail
        go_ret
        exact ⟨rfl, BW4.out⟩
      · have q1 : ((ns.length : Int) == 0) = false := by rw [beq_eq_false_iff_ne]; omega
        obtain ⟨s, hs⟩ : ∃ s : Nat, sn % ns.length = s := ⟨_, rfl⟩
        have hsn : s < ns.length := by rw [← hs]; exact Nat.mod_lt _ (by omega)
        have hrem : (sn : Int).tmod (ns.length : Int) = (s : Int) := by rw [← hs, Int.tmod_eq_emod_of_nonneg (by omega)]; simp
        obtain ⟨te, hte⟩ : ∃ te, tErr ⟨ns, cs⟩ lv ms (s : Int) = te := ⟨_, rfl⟩
        obtain ⟨X, hX⟩ : ∃ X, mkX ns cs lv ms (s : Int) = X := ⟨_, rfl⟩
        have HTE := Lib.hid hte
        have HX := Lib.hid hX
        have HSX : Hid (SmallT X) := by rw [Hid, ← hX]; exact mkX_small _ (by omega)
        have HO := Lib.hid ho
        have MZ : Hid (∀ w', Below w4.heap.size w4 w' → Calls Try.prog 28 #[.agg #[.slice An ns.length cn, .slice Ac cs.length cc], .agg #[.slice Al lv.length cl], .int .i64 (s : Int), .slice Am ms.length cm] w' (fun e w'' => PostX X te w' e w'' ∧ Below w4.heap.size w4 w'' ∧
            ∀ j, (w4.heap.size < w'.heap.size → w''.cell? ⟨w4.heap.size, j, none⟩ = w'.cell? ⟨w4.heap.size, j, none⟩ ∧ w''.frozen? ⟨w4.heap.size, j, none⟩ = w'.frozen? ⟨w4.heap.size, j, none⟩ ∧ w4.heap.size < w''.heap.size ∧ ¬ w4.heap.size = w''.heap.size))) := fun w' hb => by
          obtain ⟨_, _, pl, lr, mr⟩ := KC.out w' (B4.out.trans (hb.mono B4.out.size))
          have h1 := tmake_any ns cs lv ms (s : Int) An Ac Al Am cn cc cl cm w' (by omega) (by omega) HWF.out (by omega) HWL.out (by omega) HWM.out pl lr mr
          refine h1.mono fun e w'' h => ?_
          have h2 := px_of h
          rw [hte, hX] at h2
          have hb2 : Below w'.heap.size w' w'' := h.1
          have hz2 := hb2.size
          exact ⟨h2, hb.trans (hb2.mono hb.size), fun j hl => ⟨hb2.cell hl, hb2.frozen hl, by omega, by omega⟩⟩
        have KP : Hid (∀ w', Below w4.heap.size w4 w' → w'.cell? ⟨w.heap.size, 0, none⟩ = some (.slice An ns.length cn) ∧ w'.cell? ⟨w.heap.size, 1, none⟩ = some (.slice Ac cs.length cc) ∧ w'.cell? ⟨w.heap.size + 1, 0, none⟩ = some (.slice Al lv.length cl)) := fun w' hb => (KC.out w' (B4.out.trans (hb.mono B4.out.size))).1
        clear hs hte hX ho
        go_wp2_with fail
        go_cut [9, 10] from 39 to 51 (fun s9 s10 wx => RGx X te w4 s9 s10 wx)
        case first =>
          clear HTE HX HSX HO H1 L1 M1 HWF HWL HWM KC HW1 B2 BW2 B3 B4 BW4 PL4 LR4 MR4 BW
          have hw0 : IntKind.i64.wrap (s : Int) = (s : Int) := IntWalk.i64_in _ (by omega)
          have hn1 : (0 : Int) < (ns.length : Int) := by omega
          have hw1' : IntKind.i64.wrap (sn : Int) = (sn : Int) := IntWalk.i64_in _ (by omega)
          go_region_held3 (fun w' => w'.cell? ⟨w.heap.size, 0, none⟩ = some (.slice An ns.length cn) ∧ w'.cell? ⟨w.heap.size, 1, none⟩ = some (.slice Ac cs.length cc) ∧ w'.cell? ⟨w.heap.size + 1, 0, none⟩ = some (.slice Al lv.length cl))
            (first | exact ⟨c0, c1, c2⟩ | (refine KP.out _ ?_; repeat (first | exact Below.refl _ _ | exact BS.out | refine below_drewS ?_ | refine below_allocS ?_ _ | refine below_setS ?_ (by first | exact Nat.le_refl _ | (dsimp only; omega) | (dsimp only; have := BS.out.size; omega)))))
            (first
              | (go_at_call 28
                 refine (MZ.out _ (by repeat (first | exact Below.refl _ _ | refine below_drewS ?_ | refine below_allocS ?_ _))).mono ?_
                 rintro e ws ⟨⟨aO, aD, cO, cDl, rfl, ht3, bels⟩, bs1, pos⟩
                 unfold trV
                 have HT3 := Lib.hid ht3
                 have BS := Lib.hid bs1
                 have BLS := Lib.hid bels
                 have xc0 := pos 0
                 have xc1 := pos 1
                 have xc2 := pos 2
                 try simp [go_sem] at xc0
                 try simp [go_sem] at xc1
                 try simp [go_sem] at xc2
                 clear ht3 bels bs1 pos))
          all_goals
            go_wp2_with fail
            go_meet
            case rel =>
              have z0 := BLS.out.size
              simp at z0
              apply rgx_mk
              case hX =>
                first
                  | with_reducible exact blkA0 ws _ _
                  | with_reducible exact fill3 (a0 := .int .i64 0) (a1 := .slice none 0 0) (a2 := .slice none 0 0) (keepD (by with_reducible exact blkA0 _ _ _) BLS.out) _ _ _
              case hB =>
                repeat (first | with_reducible exact BS.out | refine below_allocS ?_ _ | refine below_setS ?_ (by dsimp only; omega))
              case hT =>
                refine HT3.out _ ?_
                first
                  | with_reducible exact AgreeF.alloc _ ws _
                  | exact AgreeF.set3 ws (by simp) _ _ _
        case rest =>
          obtain ⟨bX, aO, aD, cO, cDl, rfl, rfl, belc, hXB, hXT⟩ := hcut
          have B6 : Hid (Below w1.heap.size w1 wc) := B4.out.trans (belc.mono B4.out.size)
          have XB6 := Lib.hid hXB
          have XT6 := Lib.hid hXT
          obtain ⟨⟨pc0, pc1, pc2⟩, bwc, _⟩ := KC.out wc B6.out
          have BW6 := Lib.hid bwc
          clear MZ KP belc hXB hXT c0 c1 c2 bwc
          by_cases ht0 : te = 0
          · obtain ⟨k', hk', mok⟩ := mok_of (HTE.out.trans ht0)
            obtain rfl : s = k' := by omega
            have hXk : X = mkT ns cs lv ms s := by rw [← HX.out]; exact mkX_ok (HTE.out.trans ht0)
            have wys : waysB ns cs X = true := by rw [hXk]; exact mok.mk_ways
            have hsrc : X.src = (s : Int) := by rw [hXk]; rfl
            have HLX : Hid (X.out.length = ns.length) := by rw [Hid, hXk]; exact mkT_len
            have HDL : Hid (X.del.length = ms.length) := by rw [Hid, hXk]; unfold mkT delM; simp
            have HDM : Hid (∀ m ∈ ms, m ∈ X.del) := fun m hm => by rw [hXk]; unfold mkT; exact mem_delM.2 hm
            have ALL : Hid (allLeg cs lv X ns.length) := fun v W _ hc hr => by
              rw [hsrc, Int.toNat_natCast] at hc ⊢
              rw [hXk] at hr
              exact mok.legal hc hr
            obtain ⟨s', r, vt⟩ := valid_tree wys
            obtain rfl : s' = s := by have := vt.src; omega
            subst ht0
            clear hk'
            have V := Lib.hid vt
            have WY := Lib.hid wys
            have SRC := Lib.hid hsrc
            have x0c : wc.cell? ⟨bX, 0, none⟩ = some (.int .i64 X.src) := XB6.out.cell 0
            have x1c : wc.cell? ⟨bX, 1, none⟩ = some (.slice aO X.out.length cO) := XB6.out.cell 1
            have x2c : wc.cell? ⟨bX, 2, none⟩ = some (.slice aD X.del.length cDl) := XB6.out.cell 2
            have VC := tvalid_any ns cs X An Ac aO aD cn cc cO cDl wc (by omega) (by omega) HWF.out HSX.out (KC.out wc B6.out).2.2.1 XT6.out
            rw [wys] at VC
            unfold trV at VC
            have VCH := Lib.hid VC
            clear q1 VC wys hsrc vt hXk mok
            go_wp2_with fail
            refine VCH.out.mono ?_
            rintro e w7 ⟨rfl, bel7⟩
            have B7 : Hid (Below w1.heap.size w1 w7) := B6.out.trans (bel7.mono B6.out.size)
            have XB7 : Hid (Blk w7 bX 61 #[.int .i64 X.src, .slice aO X.out.length cO, .slice aD X.del.length cDl]) := XB6.out.below bel7 XB6.out.lt
            have XT7 : Hid (IsTree w7 aO aD X) := XT6.out.below (Nat.le_refl _) bel7
            obtain ⟨⟨c0, c1, c2⟩, _, pl7, lr7, _⟩ := KC.out w7 B7.out
            have x0 : w7.cell? ⟨bX, 0, none⟩ = some (.int .i64 X.src) := XB7.out.cell 0
            have x1 : w7.cell? ⟨bX, 1, none⟩ = some (.slice aO X.out.length cO) := XB7.out.cell 1
            have x2 : w7.cell? ⟨bX, 2, none⟩ = some (.slice aD X.del.length cDl) := XB7.out.cell 2
            have LC := tlegal_any ns cs lv X An Ac Al aO aD cn cc cl cO cDl w7 (by omega) (by omega) HWF.out (by omega) HWL.out HSX.out pl7 lr7 XT7.out
            unfold trV at LC
            have LCH := Lib.hid LC
            clear bel7 VCH LC x0c x1c x2c pc0 pc1 pc2 pl7 lr7
            go_wp2_with fail
            refine LCH.out.mono ?_
            rintro e w8 ⟨b, rfl, bel8, hbb⟩
            obtain rfl : b = true := hbb.2 ⟨WY.out, HO.out, ALL.out⟩
            have B8 : Hid (Below w1.heap.size w1 w8) := B7.out.trans (bel8.mono B7.out.size)
            have XB8 : Hid (Blk w8 bX 61 #[.int .i64 X.src, .slice aO X.out.length cO, .slice aD X.del.length cDl]) := XB7.out.below bel8 XB7.out.lt
            have XT8 : Hid (IsTree w8 aO aD X) := XT7.out.below (Nat.le_refl _) bel8
            have x0 : w8.cell? ⟨bX, 0, none⟩ = some (.int .i64 X.src) := XB8.out.cell 0
            have x1 : w8.cell? ⟨bX, 1, none⟩ = some (.slice aO X.out.length cO) := XB8.out.cell 1
            have x2 : w8.cell? ⟨bX, 2, none⟩ = some (.slice aD X.del.length cDl) := XB8.out.cell 2
            have q2 : ((X.del.length : Int) != (ms.length : Int)) = false := by rw [HDL.out]; simp
            clear bel8 LCH hbb c0 c1 c2 XB7 XT7 XB6 XT6
            go_wp2_with fail
            clear q2
            go_loopw [85] (fun i wr => RelKm ms.length w8 i wr) (fun i _ => ms.length - (RowKit.intOf i).toNat)
            case atStart => exact ⟨0, Nat.zero_le _, rfl, rfl⟩
            case round =>
              obtain ⟨k, hk, rfl, rfl⟩ := hrel
              by_cases hkr : k < ms.length
              · obtain ⟨b1, o1, ha1, hb1, hm1, e1⟩ := int_at (KC.out w8 B8.out).2.2.2.2 k hkr
                have CT := Lib.hid (contIT_any X.del (ms.getD k 0) aD cDl w8 (by have := HDL.out; omega) XT8.out.del)
                rw [decide_eq_true (HDM.out _ hm1)] at CT
                generalize ms.getD k 0 = y at *
                subst ha1
                have ki : (k : Int) < (ms.length : Int) := by omega
                clear hm1
                go_wp2_with fail
                refine CT.out.mono ?_
                rintro e we ⟨rfl, rfl⟩
                have R : Hid (RelKm ms.length w8 (.int .i64 ((k + 1 : Nat) : Int)) w8) := ⟨k + 1, by omega, rfl, rfl⟩
                clear CT
                go_wp2_with fail
                exact ⟨by simpa using R.out, by simp [RowKit.intOf]; omega⟩
              · as_aux_lemma =>
                obtain rfl : k = ms.length := by omega
                have hmm := @run_makeMap Try.prog
                obtain ⟨wm, hrun, om, gr⟩ := (OMap.made w8 Try.prog 3).store (t := 82) (int_keyed Try.underlying3) Try.underlying82 (by unfold maxLen; omega) (keyOf_int_mk Try.underlying3 (wf_small (s' : Int) (by omega) (by omega))) (.bool true)
                have BM : Hid (Below w8.heap.size w8 wm) := (((Below.refl _ _).alloc (Nat.le_refl _) _)).grown gr (by simp) (fun g e => by injection e with e; omega)
                have OM := Lib.hid om
                have ST : Hid (RelLo cs X.out s' w8.heap.size w8 (.int .i64 0) (.int .i64 0) wm) := by
                  refine ⟨0, 0 + 1, Nat.zero_le _, by omega, rfl, by simp [sumL], ?_, BM.out⟩
                  have h1 := OM.out
                  rw [show (fun _ => none : Lit → Option Value) = setM (litsI []) from rfl, lits_snoc] at h1
                  simpa [hdsK] using h1
                rw [SRC.out] at x0
                have XBm : Hid (Blk wm bX 61 #[.int .i64 X.src, .slice aO X.out.length cO, .slice aD X.del.length cDl]) := XB8.out.below BM.out XB8.out.lt
                have x1m : wm.cell? ⟨bX, 1, none⟩ = some (.slice aO X.out.length cO) := XBm.out.cell 1
                have lX : bX < w8.heap.size := XB8.out.lt
                have nX : ¬ bX = w8.heap.size := by omega
                clear om gr
                go_wp2_with fail
                have SB : Hid (∀ q, sumL (X.out.take q) ≤ 1000) := fun q => by
                  have h1 := sumL_le (X.out.take q) 32 (fun r hr => by
                    have hr := List.mem_of_mem_take hr
                    obtain ⟨u, hu, e⟩ := List.getElem_of_mem hr
                    have := V.out.row_len u
                    rwa [show X.out.getD u [] = r by simp [List.getD, hu, e]] at this)
                  have h2 : (X.out.take q).length ≤ 8 := by rw [List.length_take]; have := HLX.out; omega
                  have := Nat.mul_le_mul_right 32 h2
                  omega
                have ND := Lib.hid (hds_nodup V.out)
                have HDL2 := Lib.hid (hdsK_len cs X.out)
                have EDG : Hid (∀ u o, o ∈ X.out.getD u [] → ∃ q : Nat, o = q ∧ q < cs.length ∧ u < ns.length ∧ othN cs u q < ns.length ∧ (cs.getD q cb0).a + (cs.getD q cb0).b - (u : Int) = (othN cs u q : Nat) ∧ (0 ≤ (cs.getD q cb0).a ∧ (cs.getD q cb0).a < ns.length) ∧ 0 ≤ (cs.getD q cb0).b ∧ (cs.getD q cb0).b < ns.length) := fun u o ho => by
                  obtain ⟨q, h1, h2, h3, h4, h5, _⟩ := V.out.edge ho
                  have h6 := cab_node V.out.hv (show cs.getD q cb0 ∈ cs by simp [List.getD, h2])
                  refine ⟨q, h1, h2, h5, h4, ?_, h6⟩
                  rcases h3 with ⟨g1, g2⟩ | ⟨g1, g2⟩ <;> omega
                have hlx8 : X.out.length ≤ 8 := by have := HLX.out; omega
                clear hrun x0 x1 x2 x1m
                go_loopw [14, 102] (fun c i wr => RelLo cs X.out s' w8.heap.size w8 c i wr) (fun _ i _ => X.out.length - (RowKit.intOf i).toNat)
                case atStart => exact ST.out
                case round =>
                  clear ST hmm
                  obtain ⟨k, m, hk, hm, rfl, rfl, om, belr⟩ := hrel
                  have BE := Lib.hid belr
                  have OMK := Lib.hid om
                  have hsb := SB.out k
                  clear om belr
                  by_cases hkr : k < X.out.length
                  · obtain ⟨bo, oo, ar, capr, hao, hbo, hmr, hrr, cr0⟩ := XT8.out.out.at_ k hkr
                    have cr1 := (BE.out.cell (p := ⟨bo, oo + k, none⟩) hbo).trans cr0
                    have RR : Hid (∀ w', Below w8.heap.size w8 w' → IsRec 1 cI 0 w' ar (X.out.getD k []).length (X.out.getD k [])) := fun w' hb => hrr.below (Nat.le_refl _) hb
                    have RLk := V.out.row_len k
                    have ED := Lib.hid (EDG.out k)
                    have NX : Hid (∀ m' (wq : World), m' ≤ 1 + sumL (X.out.take k) + (X.out.getD k []).length → OMap wq Try.prog 3 w8.heap.size m' (setM (litsI (((s' : Int) :: hdsK cs X.out k) ++ (X.out.getD k []).map fun o => (othN cs k o.toNat : Int)))) → Below w8.heap.size w8 wq → RelLo cs X.out s' w8.heap.size w8 (.int .i64 ((sumL (X.out.take k) + (X.out.getD k []).length : Nat) : Int)) (.int .i64 ((k + 1 : Nat) : Int)) wq) := fun m' wq hm' ho hb =>
                      ⟨k + 1, m', by omega, by rw [sumL_take X.out k hkr]; omega, rfl, by rw [sumL_take X.out k hkr], by rw [hdsK_succ]; exact ho, hb⟩
                    have ST2 : Hid (RelLi cs k (X.out.getD k []) ((s' : Int) :: hdsK cs X.out k) (sumL (X.out.take k)) w8.heap.size w8 (.int .i64 ((sumL (X.out.take k) : Nat) : Int)) (.int .i64 0) wr) := ⟨0, m, Nat.zero_le _, by omega, rfl, rfl, by simpa using OMK.out, BE.out⟩
                    generalize sumL (X.out.take k) = c0' at *
                    generalize ((s' : Int) :: hdsK cs X.out k) = L at *
                    generalize X.out.getD k [] = row at *
                    have HAO := Lib.hid hao
                    subst hao
                    have ki : (k : Int) < (X.out.length : Int) := by omega
                    clear hmr hrr cr0 hm
                    go_wp2_with fail
                    clear cr1
                    go_loopw [14, 109] (fun c i wr => RelLi cs k row L c0' w8.heap.size w8 c i wr) (fun _ i _ => row.length - (RowKit.intOf i).toNat)
                    case atStart => exact ST2.out
                    case round =>
                      clear ST2 OMK
                      obtain ⟨j, m', hj, hm', rfl, rfl, om, belr⟩ := hrel
                      have BF := Lib.hid belr
                      have OMJ := Lib.hid om
                      clear om belr
                      by_cases hjr : j < row.length
                      · obtain ⟨b3, o3, ha3, hb3, hm3, e3⟩ := int_at (RR.out wr BF.out) j hjr
                        obtain ⟨q, hq, hql, hun, hon, hsum, ⟨a0, a1⟩, b0, b1⟩ := ED.out _ hm3
                        have TS := Lib.hid (take_snocG 0 row j hjr)
                        rw [hq] at e3 TS
                        obtain ⟨bc, oc, hac, hbc, _, f0, _, f2, _⟩ := cable_at (KC.out w8 B8.out).2.2.1.2 q hql
                        generalize cs.getD q cb0 = cab at *
                        obtain ⟨xa, xap, xb, xbp, xd, xc⟩ := cab
                        simp only at hsum a0 a1 b0 b1 f0 f2
                        have C1 : Hid (∀ w', Below w8.heap.size w8 w' → w'.cell? ⟨w.heap.size, 1, none⟩ = some (.slice Ac cs.length cc) ∧ w'.cell? ⟨bc, oc + q * 6, none⟩ = some (.int .i64 xa) ∧ w'.cell? ⟨bc, oc + q * 6 + 2, none⟩ = some (.int .i64 xb)) := fun w' hb => ⟨(KC.out w' (B8.out.trans (hb.mono B8.out.size))).1.2.1, (hb.cell (by exact hbc)).trans f0, (hb.cell (by exact hbc)).trans f2⟩
                        obtain ⟨wm2, hrun, om2, gr2⟩ := (OMJ.out.drew).store (t := 82) (int_keyed Try.underlying3) Try.underlying82 (by unfold maxLen; omega) (keyOf_int_mk Try.underlying3 (wf_small (xa + xb - (k : Int)) (by omega) (by omega))) (.bool true)
                        have BM2 : Hid (Below w8.heap.size w8 wm2) := BF.out.drew.grown gr2 BF.out.size (fun g e => by injection e with e; omega)
                        have R : Hid (RelLi cs k row L c0' w8.heap.size w8 (.int .i64 ((c0' + j + 1 : Nat) : Int)) (.int .i64 ((j + 1 : Nat) : Int)) wm2) := by
                          refine ⟨j + 1, m' + 1, by omega, by omega, rfl, rfl, ?_, BM2.out⟩
                          rw [TS.out, List.map_append, ← List.append_assoc, List.map_cons, List.map_nil, Int.toNat_natCast, ← hsum, ← lits_snoc]
                          exact om2
                        obtain ⟨g1, g2, g3⟩ := C1.out wr BF.out
                        obtain ⟨n1, n2, n3⟩ := C1.out wm2 BM2.out
                        have q1 : IntKind.i64.wrap (xa + xb) = xa + xb := IntWalk.i64_in _ (by omega)
                        have q2 : IntKind.i64.wrap (xa + xb - (k : Int)) = xa + xb - (k : Int) := IntWalk.i64_in _ (by omega)
                        have ji : (j : Int) < (row.length : Int) := by omega
                        have qi : (q : Int) < (cs.length : Int) := by omega
                        have HAC := Lib.hid hac
                        subst ha3
                        subst hac
                        clear hm3 hq hsum TS om2 gr2 f0 f2
                        go_wp2_with fail
                        go_region_held3 (fun w' => w'.cell? ⟨w.heap.size, 1, none⟩ = some (.slice (some ⟨bc, oc, none⟩) cs.length cc) ∧ w'.cell? ⟨bc, oc + q * 6, none⟩ = some (.int .i64 xa) ∧ w'.cell? ⟨bc, oc + q * 6 + 2, none⟩ = some (.int .i64 xb))
                          (first | exact ⟨g1, g2, g3⟩ | exact ⟨n1, n2, n3⟩)
                          (fail)
                        all_goals
                          clear g1 g2 g3 n1 n2 n3 q1 q2 hrun e3
                          go_wp2_with fail
                          exact ⟨by simpa using R.out, by simp [RowKit.intOf]; omega⟩
                      · obtain rfl : j = row.length := by omega
                        rw [List.take_length] at OMJ
                        have R := Lib.hid (NX.out m' wr hm' OMJ.out BF.out)
                        clear NX OMJ
                        go_wp2_with fail
                        exact ⟨by simpa using R.out, by simp [RowKit.intOf]; omega⟩
                  · as_aux_lemma =>
                    obtain rfl : k = X.out.length := by omega
                    have hLn : ((s' : Int) :: hdsK cs X.out X.out.length).length = 1 + sumL X.out := by rw [List.length_cons, HDL2.out _ (Nat.le_refl _), List.take_length]; omega
                    have hlen := omap_len (ND.out _) OMK.out 3
                    rw [hLn] at hlen
                    rw [List.take_length] at hsb ⊢
                    have XBr : Hid (Blk wr bX 61 #[.int .i64 X.src, .slice aO X.out.length cO, .slice aD X.del.length cDl]) := XB8.out.below BE.out XB8.out.lt
                    have x0 : wr.cell? ⟨bX, 0, none⟩ = some (.int .i64 X.src) := XBr.out.cell 0
                    have x1 : wr.cell? ⟨bX, 1, none⟩ = some (.slice aO X.out.length cO) := XBr.out.cell 1
                    have x2 : wr.cell? ⟨bX, 2, none⟩ = some (.slice aD X.del.length cDl) := XBr.out.cell 2
                    have Br : Hid (Below w1.heap.size w1 wr) := B8.out.trans (BE.out.mono B8.out.size)
                    obtain ⟨⟨c0, c1, _⟩, bwr, plr, _⟩ := KC.out wr Br.out
                    have CP := tcopies_any ns cs X An Ac aO aD cn cc cO cDl wr (by omega) (by omega) HWF.out HSX.out plr (XT8.out.below (Nat.le_refl _) BE.out)
                    unfold copiesB trV at CP
                    rw [if_pos WY.out] at CP
                    have CPH := Lib.hid CP
                    have BWR := Lib.hid bwr
                    generalize sumL X.out = sL at *
                    have q5 : ((sL : Int) == 1 + (sL : Int) - 1) = true := by rw [beq_iff_eq]; omega
                    have q6 : ((sL : Int) == (sL : Int)) = true := beq_self_eq_true _
                    rw [show (((1 + sL : Nat)) : Int) = 1 + (sL : Int) by push_cast; rfl] at hlen
                    clear hLn CP bwr plr OMK ND
                    go_wp2_with fail
                    refine CPH.out.mono ?_
                    rintro e wz ⟨rfl, belz⟩
                    have BF := Lib.hid (BWR.out.trans (belz.mono BWR.out.size))
                    clear CPH belz hlen q5
                    go_wp2_with fail
                    go_ret
                    exact ⟨rfl, BF.out⟩
          · have q3 : (te != 0) = true := by simpa using ht0
            have hXz : X = zT := by rw [← HX.out]; exact mkX_err (by rw [HTE.out]; exact ht0)
            have x1 : wc.cell? ⟨bX, 1, none⟩ = some (.slice aO 0 cO) := by have := XB6.out.cell 1; rw [hXz] at this; exact this
            have x2 : wc.cell? ⟨bX, 2, none⟩ = some (.slice aD 0 cDl) := by have := XB6.out.cell 2; rw [hXz] at this; exact this
            clear q1 pc0 pc1 pc2 hXz
            go_wp2_with fail
            go_ret
            exact ⟨rfl, BW6.out⟩
end Go.Proofs.Ytljojgpjgjfddaa.treeLegalW
