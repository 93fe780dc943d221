/- The reference's Acyclic of layer 22, plain and its contract (written by gen_acyf.py). -/
import Derived.Test.YtljojgpjgjfddaaCCycle
namespace Go.Proofs.Ytljojgpjgjfddaa
open Go.RowKit Go.Maps Go.Sort Go.Shelf
set_option linter.unusedVariables false

theorem infoR22D : (Try.prog.info? 94).map (fun i => (i.zero, i.size, i.bytes)) = some (some (.agg #[.int .i64 0, .int .i64 0, .int .i64 0]), 3, 24) := by kernel_rfl
theorem reads_newF (w : World) (t : TypeId) (cs : Array Value) {n size : Nat} (h : cs.size = n * size) : Reads (w.alloc (.cells cs t)) (w.heap.size + 1) size (some ⟨w.heap.size, 0, none⟩) n cs.toList :=
  ⟨by simpa using h, fun _ => ⟨_, rfl, by simp, fun q u hu => World.news_of_block (cs := cs) (t := t) (fr := (0, 0)) (heap_alloc_new w _) q u hu⟩⟩
def reachBF (l : List Dp) (x : Dp) : Bool := l.any fun y => y.1 == x.2.1
def stepAF (l : List Dp) : List Dp := l.filter (reachBF l)
def acyRF : Nat → List Dp → Bool
  | 0, _ => true
  | n + 1, l => if l = [] then true else if (stepAF l).length = l.length then false else acyRF n (stepAF l)
def acyclicRF (l : List Dp) : Bool := acyRF l.length l
theorem stepA_leF (l : List Dp) : (stepAF l).length ≤ l.length := List.length_filter_le _ _
theorem acyR_moreF (n : Nat) (l : List Dp) (h : l.length ≤ n) : acyRF n l = acyclicRF l := by
  induction n using Nat.strongRecOn generalizing l with
  | _ n ih =>
    unfold acyclicRF
    cases n with
    | zero => have : l.length = 0 := by omega
              rw [this]
    | succ n =>
      cases hl : l.length with
      | zero =>
        have : l = [] := List.eq_nil_of_length_eq_zero hl
        subst this; simp [acyRF]
      | succ m =>
        unfold acyRF
        split
        · rfl
        · split
          · rfl
          · rename_i h1 h2
            have h3 := stepA_leF l
            rw [ih n (by omega) (stepAF l) (by omega), ih m (by omega) (stepAF l) (by omega)]
theorem acyclicR_stepF (l : List Dp) (h : l ≠ []) : acyclicRF l = if (stepAF l).length = l.length then false else acyclicRF (stepAF l) := by
  have hl : 0 < l.length := List.length_pos_iff.2 h
  obtain ⟨n, hn⟩ : ∃ n, l.length = n + 1 := ⟨l.length - 1, by omega⟩
  have h3 := stepA_leF l
  conv => lhs; unfold acyclicRF
  rw [hn]
  conv => lhs; unfold acyRF
  rw [if_neg h, hn]
  split
  · rfl
  · exact acyR_moreF n _ (by omega)
theorem acyclicR_nilF : acyclicRF [] = true := rfl
theorem mem_stepAF {l : List Dp} {x : Dp} : x ∈ stepAF l ↔ x ∈ l ∧ ∃ y ∈ l, y.1 = x.2.1 := by
  unfold stepAF reachBF
  rw [List.mem_filter, List.any_eq_true]
  simp
/-- With a rank that falls along each dependency it answers true. -/
theorem acy_of_rankF (rank : Int → Nat) (l : List Dp) (h : ∀ d ∈ l, rank d.1 < rank d.2.1) : acyclicRF l = true := by
  obtain ⟨n, hn⟩ : ∃ n, l.length = n := ⟨_, rfl⟩
  induction n using Nat.strongRecOn generalizing l with
  | _ n ih =>
    rcases Classical.em (l = []) with rfl | hne
    · rfl
    · have hlt : (stepAF l).length < l.length := by
        rcases Nat.lt_or_ge (stepAF l).length l.length with h1 | h1
        · exact h1
        · exfalso
          have he : stepAF l = l := (List.filter_sublist).eq_of_length (by have := stepA_leF l; unfold stepAF at this h1; omega)
          -- an element of the greatest rank
          have hmax : ∃ x ∈ l, ∀ y ∈ l, rank y.2.1 ≤ rank x.2.1 := by
            have gen : ∀ m : List Dp, m ≠ [] → ∃ x ∈ m, ∀ y ∈ m, rank y.2.1 ≤ rank x.2.1 := by
              intro m
              induction m with
              | nil => intro h; exact absurd rfl h
              | cons a m ihm =>
                intro _
                rcases Classical.em (m = []) with rfl | hm
                · exact ⟨a, List.mem_cons_self .., fun y hy => by simp at hy; subst hy; exact Nat.le_refl _⟩
                · obtain ⟨x, hx, hy⟩ := ihm hm
                  rcases Nat.le_total (rank a.2.1) (rank x.2.1) with hax | hax
                  · exact ⟨x, List.mem_cons_of_mem _ hx, fun y h => by
                      rcases List.mem_cons.1 h with rfl | h
                      · exact hax
                      · exact hy y h⟩
                  · exact ⟨a, List.mem_cons_self .., fun y h => by
                      rcases List.mem_cons.1 h with rfl | h
                      · exact Nat.le_refl _
                      · exact Nat.le_trans (hy y h) hax⟩
            exact gen l hne
          obtain ⟨x, hx, hy⟩ := hmax
          rw [← he] at hx
          obtain ⟨hxl, y, hyl, e⟩ := mem_stepAF.1 hx
          have h2 := h y hyl
          have h3 := hy y hyl
          rw [e] at h2
          omega
      rw [acyclicR_stepF l hne, if_neg (by omega)]
      exact ih _ (by omega) (stepAF l) (fun d hd => h d (mem_stepAF.1 hd).1) rfl

def lenVF : Value → Nat
  | .slice _ n _ => n
  | _ => 0
def RelAcF (l : List Dp) (w0 : World) (v : Value) (wr : World) : Prop :=
  ∃ L : List Dp, ∃ a c, L.length ≤ l.length ∧ v = .slice a L.length c ∧ IsRec 3 cD d0 wr a L.length L ∧ acyclicRF L = acyclicRF l ∧ Below w0.heap.size w0 wr
def RelAc2F (L : List Dp) (wa : World) (v i : Value) (wr : World) : Prop :=
  ∃ k : Nat, k ≤ L.length ∧ i = .int .i64 k ∧ wr.ownsRow wa.heap.size 94 3 v ((L.take k).filter (reachBF L)).length (((L.take k).filter (reachBF L)).flatMap cD) ∧ Below wa.heap.size wa wr
def anyTF (L : List Dp) (f : Int) (j : Nat) : Bool := (L.take j).any fun y => y.1 == f
def RelAc3F (L : List Dp) (f : Int) (wb : World) (b i : Value) (wr : World) : Prop :=
  ∃ j : Nat, j ≤ L.length ∧ i = .int .i64 j ∧ b = .bool (anyTF L f j) ∧ ∃ n, wr = wb.drewN n
theorem anyT_snocF (L : List Dp) (f : Int) (j : Nat) (h : j < L.length) : anyTF L f (j + 1) = (anyTF L f j || (L.getD j d0).1 == f) := by
  unfold anyTF; rw [take_snocG d0 L j h, List.any_append]; simp
theorem filt_snocF (L : List Dp) (j : Nat) (h : j < L.length) (b : Bool) (hb : reachBF L (L.getD j d0) = b) : (L.take (j + 1)).filter (reachBF L) = (L.take j).filter (reachBF L) ++ (if b then [L.getD j d0] else []) := by
  rw [take_snocG d0 L j h, List.filter_append]
  generalize L.getD j d0 = x at *
  cases b <;> simp [hb]
set_option maxRecDepth 100000 in
set_option maxHeartbeats 4000000 in
theorem acyclic22_any (l : List Dp) (a : Option Addr) (c : Nat) (w : World) (hl : l.length ≤ 1000000) (h : IsRec 3 cD d0 w a l.length l) :
    Calls Try.prog 15 #[.slice a l.length c] w fun e w' => e = .returned (.bool (acyclicRF l)) ∧ Below w.heap.size w w' := by
  obtain ⟨i0, hi0, hz0, hz1, hz2⟩ := info_parts infoR22D
  have H := Lib.hid h
  clear h
  go_enter Try.func15, Try.ntmps15
  have OW0 : Hid ((w.alloc (.cells #[] 94)).ownsRow w.heap.size 94 3 (.slice (some ⟨w.heap.size, 0, none⟩) 0 0) 0 []) :=
    ⟨rfl, .inr ⟨w.heap.size, 0, #[], rfl, Nat.le_refl _, heap_alloc_new w _, Nat.le_refl _, Nat.zero_le _, rfl, rfl⟩⟩
  have RD := Lib.hid ((reads_of_rec (c := cD) (fun _ => rfl) H.out).alloc (Nat.le_refl _) (.cells #[] 94))
  have ONE : Hid (∀ u ∈ l.flatMap cD, u.oneCell' = true) := cD_oneJ l
  go_wp2_with (at_builtin; refine wpList_append_any _ rfl (.tmp 8) (.tmp 9) 40 rfl w.heap.size 94 i0 _ 3 24 Try.underlying40 hi0 hz0 hz1 hz2 rfl (by decide) _ _ _ rfl OW0.out w.heap.size a l.length c (l.flatMap cD) rfl RD.out ONE.out ?h3 ?h4 ?h5 ?_)
  case h3 => unfold maxLen; omega
  case h4 => omega
  case h5 => simp
  intro v0 w0' own0 gr0 _
  obtain ⟨a0, cap0, hv0, _, r0, _⟩ := rec_of_own (d := d0) (c := cD) (fun _ => rfl) (by decide) own0
  subst hv0
  have ST : Hid (RelAcF l w (.slice a0 l.length cap0) w0') := ⟨l, a0, cap0, Nat.le_refl _, rfl, r0, rfl, ((Below.refl _ _).alloc (Nat.le_refl _) _).grown gr0 (by simp) (fun g e => (OW0.out.lt g e).1)⟩
  clear own0 gr0 r0 OW0 RD ONE
  go_wp2_with fail
  go_loopw [3] (fun v wr => RelAcF l w v wr) (fun v _ => lenVF v)
  case atStart => exact ST.out
  case round =>
    obtain ⟨L, av, cv, hle, rfl, hr, hac, bel⟩ := hrel
    clear H ST
    have AC := Lib.hid hac
    have BE := Lib.hid bel
    have HR := Lib.hid hr
    clear hac bel hr
    obtain ⟨wa, hwa⟩ : ∃ wa, wa = wr := ⟨_, rfl⟩
    subst hwa
    by_cases hL : L = []
    · subst hL
      have F : Hid (acyclicRF l = true) := by rw [Hid, ← AC.out]; rfl
      go_wp2_with fail
      go_ret
      exact ⟨by rw [F.out]; rfl, BE.out⟩
    · have hpos : 0 < L.length := List.length_pos_iff.2 hL
      have hposi : (0 : Int) < (L.length : Int) := by omega
      have ST := Lib.hid (acyclicR_stepF L hL)
      clear hL
      go_wp2_with fail
      go_loopw [4, 5] (fun v i wr => RelAc2F L wa v i wr) (fun _ i _ => L.length - (RowKit.intOf i).toNat)
      case atStart => exact ⟨0, Nat.zero_le _, rfl, World.ownsRow_nil _ _ _ _, Below.refl _ _⟩
      case round =>
        obtain ⟨k, hk, rfl, own, bel⟩ := hrel
        have szr := bel.size
        have BL := Lib.hid bel
        have OW := Lib.hid own
        have BW : Hid (Below w.heap.size w wr) := BE.out.trans (bel.mono BE.out.size)
        clear own bel
        obtain ⟨wb, hwb⟩ : ∃ wb, wb = wr := ⟨_, rfl⟩
        subst hwb
        by_cases hkr : k < L.length
        · have i2 : (k : Int) < (L.length : Int) := by omega
          obtain ⟨b1, o1, ha1, hb1, hm1, e0, e1, e2⟩ := dep_at (HR.out.below (Nat.le_refl _) BL.out) k hkr
          have FS := Lib.hid (filt_snocF L k hkr)
          have RX : Hid (reachBF L (L.getD k d0) = anyTF L (L.getD k d0).2.1 L.length) := by rw [Hid]; unfold anyTF reachBF; rw [List.take_length]
          generalize L.getD k d0 = x at *
          subst ha1
          obtain ⟨x0, x1, x2⟩ := x
          simp only at e0 e1 e2 RX
          clear hm1
          have HRB : Hid (IsRec 3 cD d0 wb (some ⟨b1, o1, none⟩) L.length L) := HR.out.below (Nat.le_refl _) BL.out
          go_wp2_with fail
          go_loopw [6, 7] (fun b i wr => RelAc3F L x1 wb b i wr) (fun _ i _ => L.length - (RowKit.intOf i).toNat)
          case atStart => exact ⟨0, Nat.zero_le _, rfl, by simp [anyTF], 0, by simp [World.drewN]⟩
          case round =>
            obtain ⟨j, hj, rfl, rfl, nn, rfl⟩ := hrel
            by_cases hjr : j < L.length
            · have j2 : (j : Int) < (L.length : Int) := by omega
              obtain ⟨b2, o2, ha2, hb2, hm2, f0, f1, f2⟩ := dep_at HRB.out j hjr
              injection ha2 with ha2
              injection ha2 with ha3 ha4
              subst ha3
              subst ha4
              have AS := Lib.hid (anyT_snocF L x1 j hjr)
              generalize L.getD j d0 = y at *
              obtain ⟨y0, y1, y2⟩ := y
              simp only at f0 f1 f2 AS
              have RN : Hid (∀ b m, anyTF L x1 (j + 1) = b → RelAc3F L x1 wb (.bool b) (.int .i64 ((j + 1 : Nat) : Int)) ((wb.drewN nn).drewN m)) := fun b m hb => ⟨j + 1, by omega, rfl, by rw [hb], nn + m, by simp [World.drewN, Nat.add_assoc]⟩
              clear hm2 f1 f2 e0 e2
              cases hx : anyTF L x1 j with
              | true =>
                have R := Lib.hid (fun m => RN.out true m (by rw [AS.out, hx]; rfl))
                clear AS RN hx
                go_wp2_with fail
                go_quiet (fail)
                go_wp2_with fail
                exact ⟨by simpa using R.out _, by simp [RowKit.intOf]; omega⟩
              | false =>
                have R := Lib.hid (fun m => RN.out (y0 == x1) m (by rw [AS.out, hx]; rfl))
                clear AS RN hx
                go_wp2_with fail
                go_quiet (fail)
                go_wp2_with fail
                exact ⟨by simpa using R.out _, by simp [RowKit.intOf]; omega⟩
            · obtain rfl : j = L.length := by omega
              have BD : Hid (Below wa.heap.size wa (wb.drewN nn)) := below_drewN BL.out nn
              have OD : Hid ((wb.drewN nn).ownsRow wa.heap.size 94 3 u4 ((L.take k).filter (reachBF L)).length (((L.take k).filter (reachBF L)).flatMap cD)) := OW.out
              have q0 : (wb.drewN nn).cell? ⟨b1, o1 + k * 3, none⟩ = some (.int .i64 x0) := e0
              have q1 : (wb.drewN nn).cell? ⟨b1, o1 + k * 3 + 1, none⟩ = some (.int .i64 x1) := e1
              have q2 : (wb.drewN nn).cell? ⟨b1, o1 + k * 3 + 1 + 1, none⟩ = some (.int .i64 x2) := e2
              have hwd : (wb.drewN nn).heap.size = wb.heap.size := rfl
              have hfl : ((L.take k).filter (reachBF L)).length ≤ k := by
                have := List.length_filter_le (reachBF L) (L.take k)
                rw [List.length_take] at this; omega
              generalize wb.drewN nn = wd at *
              have szd : wa.heap.size ≤ wd.heap.size := by omega
              clear hwd
              clear e0 e1 e2
              cases hx : anyTF L x1 L.length with
              | false =>
                have FS2 := FS.out false (by rw [RX.out, hx])
                simp only [Bool.false_eq_true, if_false, List.append_nil] at FS2
                have R : Hid (RelAc2F L wa u4 (.int .i64 ((k + 1 : Nat) : Int)) wd) := ⟨k + 1, by omega, rfl, by rw [FS2]; exact OD.out, BD.out⟩
                clear FS FS2 hx
                go_wp2_with fail
                exact ⟨by simpa using R.out, by simp [RowKit.intOf]; omega⟩
              | true =>
                have FS2 := FS.out true (by rw [RX.out, hx])
                rw [if_pos rfl] at FS2
                have FSH := Lib.hid FS2
                clear FS FS2 hx
                go_wp2_with (at_builtin; refine wpList_append_any _ rfl (.tmp 41) (.tmp 46) 40 rfl wa.heap.size 94 i0 _ 3 24 Try.underlying40 hi0 hz0 hz1 hz2 rfl (by decide) _ _ _ rfl (OD.out.alloc _) (wd.heap.size + 1) (some ⟨wd.heap.size, 0, none⟩) 1 1 (cD (x0, x1, x2)) rfl (reads_newF wd 94 #[.int .i64 x0, .int .i64 x1, .int .i64 x2] rfl) ?g3 ?g4 ?g5 ?g6 ?_)
                case g3 => intro u hu; simp [cD] at hu; rcases hu with rfl | rfl | rfl <;> rfl
                case g4 => unfold maxLen; omega
                case g5 => omega
                case g6 => simp; omega
                intro v9 w9 own9 gr9 _
                have R : Hid (RelAc2F L wa v9 (.int .i64 ((k + 1 : Nat) : Int)) w9) := by
                  refine ⟨k + 1, by omega, rfl, ?_, (BD.out.alloc (by omega) _).grown gr9 (by simp; omega) (fun g e => (OD.out.lt g e).1)⟩
                  rw [FSH.out, List.length_append, List.flatMap_append]
                  simpa using own9
                clear own9 gr9
                go_wp2_with fail
                exact ⟨by simpa using R.out, by simp [RowKit.intOf]; omega⟩
        · obtain rfl : k = L.length := by omega
          have OW2 : wb.ownsRow wa.heap.size 94 3 u4 (stepAF L).length ((stepAF L).flatMap cD) := by have := OW.out; rw [List.take_length] at this; exact this
          obtain ⟨ar, cr, hvr, _, rr, _⟩ := rec_of_own (d := d0) (c := cD) (fun _ => rfl) (by decide) OW2
          subst hvr
          have sle := stepA_leF L
          have RR := Lib.hid rr
          clear OW OW2 rr
          by_cases hq : (stepAF L).length = L.length
          · have F : Hid (acyclicRF l = false) := by rw [Hid, ← AC.out, ST.out, if_pos hq]
            have hqb : (((stepAF L).length : Int) == (L.length : Int)) = true := by simp [hq]
            clear hq ST
            go_wp2_with fail
            go_ret
            exact ⟨by rw [F.out]; rfl, BW.out⟩
          · have R : Hid (RelAcF l w (.slice ar (stepAF L).length cr) wb) := ⟨stepAF L, ar, cr, by omega, rfl, RR.out, by rw [← AC.out, ST.out, if_neg hq], BW.out⟩
            have hqb : (((stepAF L).length : Int) == (L.length : Int)) = false := by simp; omega
            have hlt : (stepAF L).length < L.length := by omega
            clear ST
            go_wp2_with fail
            exact ⟨R.out, by simp [lenVF]; omega⟩
end Go.Proofs.Ytljojgpjgjfddaa
