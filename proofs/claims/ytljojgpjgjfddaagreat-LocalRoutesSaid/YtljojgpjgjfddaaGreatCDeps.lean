/- The contract of channel.Deps. -/
import Derived.Test.YtljojgpjgjfddaaGreatCAbove
import Derived.Test.YtljojgpjgjfddaaGreatCUnion
namespace Go.Proofs.YtljojgpjgjfddaaGreat
open Go.RowKit Go.Maps Go.Sort Go.Shelf
set_option linter.unusedVariables false
set_option linter.unusedSimpArgs false

def rowAt (T : List Row2) (u : Int) : Row2 := T.getD u.toNat row0
/-- The phase behind a step. -/
def aftV (lv : List Int) (u v : Int) (ph : Nat) : Nat := if ph = 0 ∧ aboveB lv v u = true then 0 else 1
def depT (cs : List Cb) (lv : List Int) (T : List Row2) (c : Nat) (ph t : Nat) : List Dp :=
  if ((phOf (rowAt T (chEnds cs c).1) ph).getD t 0 == ((c / 2 : Nat) : Int)) && decide (0 ≤ (phOf (rowAt T (chEnds cs c).2) (aftV lv (chEnds cs c).1 (chEnds cs c).2 ph)).getD t 0) then
    [((c : Int), leavV cs ((phOf (rowAt T (chEnds cs c).2) (aftV lv (chEnds cs c).1 (chEnds cs c).2 ph)).getD t 0) (chEnds cs c).2, (chEnds cs c).2)] else []
def depTo (cs : List Cb) (lv : List Int) (T : List Row2) (c ph k : Nat) : List Dp := (List.range k).flatMap (depT cs lv T c ph)
def depC (cs : List Cb) (lv : List Int) (T : List Row2) (n c : Nat) : List Dp :=
  if lvAt lv (chEnds cs c).1 < 0 ∨ lvAt lv (chEnds cs c).2 < 0 then [] else depTo cs lv T c 0 n ++ depTo cs lv T c 1 n
def depA (cs : List Cb) (lv : List Int) (T : List Row2) (n k : Nat) : List Dp := (List.range k).flatMap (depC cs lv T n)
def depsD (p : Pl) (lv : List Int) (T : List Row2) : List Dp := sortD (setOfD (depA p.cs lv T p.ns.length (2 * p.cs.length)))
theorem depT_len (cs : List Cb) (lv : List Int) (T : List Row2) (c ph t : Nat) : (depT cs lv T c ph t).length ≤ 1 := by unfold depT; split <;> simp
theorem depTo_len (cs : List Cb) (lv : List Int) (T : List Row2) (c ph k : Nat) : (depTo cs lv T c ph k).length ≤ k := by
  unfold depTo
  induction k with
  | zero => simp
  | succ k ih => rw [List.range_succ, List.flatMap_append, List.length_append]; have := depT_len cs lv T c ph k; simp; simp at ih; omega
theorem depTo_succ (cs : List Cb) (lv : List Int) (T : List Row2) (c ph k : Nat) : depTo cs lv T c ph (k + 1) = depTo cs lv T c ph k ++ depT cs lv T c ph k := by
  unfold depTo; rw [List.range_succ, List.flatMap_append]; simp
theorem depC_len (cs : List Cb) (lv : List Int) (T : List Row2) (n c : Nat) : (depC cs lv T n c).length ≤ 2 * n := by
  unfold depC
  split
  · simp
  · rw [List.length_append]; have := depTo_len cs lv T c 0 n; have := depTo_len cs lv T c 1 n; omega
theorem depA_len (cs : List Cb) (lv : List Int) (T : List Row2) (n k : Nat) : (depA cs lv T n k).length ≤ 2 * n * k := by
  unfold depA
  induction k with
  | zero => simp
  | succ k ih =>
    rw [List.range_succ, List.flatMap_append, List.length_append]
    have := depC_len cs lv T n k
    simp
    simp at ih
    rw [Nat.mul_add]
    omega
theorem depA_succ (cs : List Cb) (lv : List Int) (T : List Row2) (n k : Nat) : depA cs lv T n (k + 1) = depA cs lv T n k ++ depC cs lv T n k := by
  unfold depA; rw [List.range_succ, List.flatMap_append]; simp

theorem orderB_len {p : Pl} {lv : List Int} (h : orderB p lv = true) : validP p = 0 ∧ lv.length = p.ns.length := by
  unfold orderB at h; simp only [Bool.and_eq_true, decide_eq_true_eq] at h; exact ⟨h.1.1.1.1, h.1.1.1.2⟩
theorem tableB_row {p : Pl} {T : List Row2} (h : tableB p T = true) : T.length = p.ns.length ∧ ∀ u ph, u < p.ns.length → ph < 2 → (phOf (T.getD u row0) ph).length = p.ns.length ∧ ∀ t, t < p.ns.length → permB p.cs u t ((phOf (T.getD u row0) ph).getD t 0) = true := by
  unfold tableB at h
  simp only [Bool.and_eq_true, decide_eq_true_eq] at h
  refine ⟨h.1.2, fun u ph hu hph => ?_⟩
  have h1 := List.all_eq_true.1 h.2 u (List.mem_range.2 (by omega))
  unfold tabOk at h1
  simp only [Bool.and_eq_true] at h1
  have h2 : rowOk p.cs p.ns.length u (phOf (T.getD u row0) ph) = true := by
    rcases (show ph = 0 ∨ ph = 1 by omega) with rfl | rfl
    · exact h1.1
    · exact h1.2
  unfold rowOk at h2
  simp only [Bool.and_eq_true, decide_eq_true_eq] at h2
  exact ⟨h2.1, fun t ht => List.all_eq_true.1 h2.2 t (List.mem_range.2 (by omega))⟩
theorem perm_lt {cs : List Cb} {node to_ number : Int} (h : permB cs node to_ number = true) (h0 : 0 ≤ number) : number < cs.length := by
  unfold permB at h
  split at h
  · simp only [Bool.and_eq_true, beq_iff_eq] at h; omega
  · split at h
    · rename_i h2; simp at h2; omega
    · split at h
      · cases h
      · omega
theorem chEnds_node {ns : List Nd} {cs : List Cb} (h : validP ⟨ns, cs⟩ = 0) {c : Nat} (hc : c < 2 * cs.length) : (0 ≤ (chEnds cs c).1 ∧ (chEnds cs c).1 < ns.length) ∧ 0 ≤ (chEnds cs c).2 ∧ (chEnds cs c).2 < ns.length := by
  have hk : c / 2 < cs.length := by omega
  have hm : cs.getD (c / 2) cb0 ∈ cs := by simp [List.getD, hk]
  have h2 := cab_node h hm
  have e : ((c : Int) / 2).toNat = c / 2 := by omega
  unfold chEnds
  rw [e]
  split
  · exact h2
  · exact ⟨h2.2, h2.1⟩
theorem chanV_bd (a b : Int) : -1 ≤ chanV a b ∧ chanV a b ≤ 63 := by unfold chanV; split <;> omega
theorem leavV_bd (cs : List Cb) (a b : Int) : -1 ≤ leavV cs a b ∧ leavV cs a b ≤ 63 := by unfold leavV; split <;> exact chanV_bd _ _

def RelD1 (cs : List Cb) (lv : List Int) (T : List Row2) (n b : Nat) (w4 : World) (i : Value) (wr : World) : Prop :=
  ∃ k : Nat, k ≤ 2 * cs.length ∧ i = .int .i64 k ∧ DSet wr b (depA cs lv T n k).length (setOfD (depA cs lv T n k)) ∧ Below b w4 wr
def RelD2 (cs : List Cb) (lv : List Int) (T : List Row2) (n b c : Nat) (pre : List Dp) (w4 : World) (i : Value) (wr : World) : Prop :=
  ∃ j : Nat, j ≤ 2 ∧ i = .int .i64 j ∧ DSet wr b (pre ++ (if j = 0 then [] else depTo cs lv T c 0 n) ++ (if j = 2 then depTo cs lv T c 1 n else [])).length (setOfD (pre ++ (if j = 0 then [] else depTo cs lv T c 0 n) ++ (if j = 2 then depTo cs lv T c 1 n else []))) ∧ Below b w4 wr
def RelD3 (cs : List Cb) (lv : List Int) (T : List Row2) (n b c ph : Nat) (pre : List Dp) (w4 : World) (i : Value) (wr : World) : Prop :=
  ∃ t : Nat, t ≤ n ∧ i = .int .i64 t ∧ DSet wr b (pre ++ depTo cs lv T c ph t).length (setOfD (pre ++ depTo cs lv T c ph t)) ∧ Below b w4 wr
def DepsRes (p : Pl) (lv : List Int) (T : List Row2) (w : World) (e : Ending) (w' : World) : Prop :=
  Below w.heap.size w w' ∧ (((orderB p lv && tableB p T) = false ∧ e = .returned (.tuple #[.slice none 0 0, .int .i64 1])) ∨
    ((orderB p lv && tableB p T) = true ∧ ∃ v, e = .returned (.tuple #[v, .int .i64 0]) ∧ w'.ownsRow w.heap.size 69 3 v (depsD p lv T).length ((depsD p lv T).flatMap cD)))

set_option maxRecDepth 100000 in
set_option maxHeartbeats 8000000 in
theorem deps_any (p : Pl) (lv : List Int) (T : List Row2) (An Ac Al At : Option Addr) (cn cc cl ct : Nat) (w : World) (hl : p.ns.length ≤ 1000000) (hl2 : p.cs.length ≤ 1000000) (hwf : WfP p) (hlv : lv.length ≤ 1000000) (hwl : WfI lv) (hT : T.length ≤ 1000000) (hwt : WfT T)
    (h : IsPlan w An Ac p) (h2 : IsRec 1 cI 0 w Al lv.length lv) (h3 : IsTab w At T.length T) :
    Calls Tryz.prog 9 #[.agg #[.slice An p.ns.length cn, .slice Ac p.cs.length cc], .agg #[.slice Al lv.length cl], .agg #[.slice At T.length ct]] w (DepsRes p lv T w) := by
  obtain ⟨ns, cs⟩ := p
  simp only at hl hl2 ⊢
  have HW := Lib.hid hwf
  have HWL := Lib.hid hwl
  have HWT := Lib.hid hwt
  have hmm := @run_makeMap Tryz.prog
  obtain ⟨w1, hw1⟩ : ∃ w1 : World, ((w.alloc (.cells #[.slice An ns.length cn, .slice Ac cs.length cc] 25)).alloc (.cells #[.slice Al lv.length cl] 30)).alloc (.cells #[.slice At T.length ct] 36) = w1 := ⟨_, rfl⟩
  have s0 : w1.cell? ⟨w.heap.size, 0, none⟩ = some (.slice An ns.length cn) := by rw [← hw1]; simp [go_sem]
  have s1 : w1.cell? ⟨w.heap.size, 1, none⟩ = some (.slice Ac cs.length cc) := by rw [← hw1]; simp [go_sem]
  have s2 : w1.cell? ⟨w.heap.size + 1, 0, none⟩ = some (.slice Al lv.length cl) := by rw [← hw1]; simp [go_sem]
  have s3 : w1.cell? ⟨w.heap.size + 1 + 1, 0, none⟩ = some (.slice At T.length ct) := by rw [← hw1]; simp [go_sem]
  have sz1 : w.heap.size + 1 + 1 < w1.heap.size := by rw [← hw1]; simp
  have BW0 : Below w.heap.size w w1 := by rw [← hw1]; exact (((Below.refl _ _).alloc (Nat.le_refl _) _).alloc (by simp) _).alloc (by simp; omega) _
  have H1 := Lib.hid (h.below (Nat.le_refl _) BW0)
  have L1 := Lib.hid (h2.below (Nat.le_refl _) BW0)
  have T1 := Lib.hid (h3.below (Nat.le_refl _) BW0)
  have HW1 := Lib.hid hw1
  have KC : Hid (∀ w', Below w1.heap.size w1 w' → w'.cell? ⟨w.heap.size, 0, none⟩ = some (.slice An ns.length cn) ∧ w'.cell? ⟨w.heap.size, 1, none⟩ = some (.slice Ac cs.length cc) ∧ w'.cell? ⟨w.heap.size + 1, 0, none⟩ = some (.slice Al lv.length cl) ∧ w'.cell? ⟨w.heap.size + 1 + 1, 0, none⟩ = some (.slice At T.length ct) ∧ w.heap.size + 1 + 1 < w'.heap.size ∧ Below w.heap.size w w') :=
    fun w' hb => ⟨(hb.cell (by show w.heap.size < _; omega)).trans s0, (hb.cell (by show w.heap.size < _; omega)).trans s1, (hb.cell (by show w.heap.size + 1 < _; omega)).trans s2, (hb.cell (by exact sz1)).trans s3, by have := hb.size; omega, BW0.trans (hb.mono (by omega))⟩
  clear h h2 h3 hw1 hwf BW0 hwl hwt
  go_enter Tryz.func9, Tryz.ntmps9
  go_wp2_with fail
  rw [HW1.out]
  refine (order_any ⟨ns, cs⟩ lv An Ac Al cn cc cl _ hl hl2 HW.out hlv HWL.out H1.out L1.out).mono ?_
  rintro e w2 ⟨rfl, bel2⟩
  have B2 := Lib.hid bel2
  clear s0 s1 s2 s3
  obtain ⟨u0, u1, u2, u3, sz2, bw2⟩ := KC.out w2 bel2
  have BF2 := Lib.hid bw2
  clear bel2 bw2
  cases ho : orderB ⟨ns, cs⟩ lv with
  | false =>
    have F : Hid (DepsRes ⟨ns, cs⟩ lv T w (.returned (.tuple #[.slice none 0 0, .int .i64 1])) w2) := ⟨BF2.out, .inl ⟨by rw [ho]; rfl, rfl⟩⟩
    clear ho
    go_wp2_with fail
    go_ret2
    exact F.out
  | true =>
    have HO := Lib.hid ho
    clear ho
    go_wp2_with fail
    refine (table_any ⟨ns, cs⟩ T An Ac At cn cc ct _ hl hl2 HW.out hT (H1.out.below (Nat.le_refl _) B2.out) (T1.out.below (Nat.le_refl _) B2.out)).mono ?_
    rintro e w3 ⟨rfl, bel3⟩
    have B3 := Lib.hid (B2.out.trans (bel3.mono B2.out.size))
    clear u0 u1 u2 u3 bel3
    obtain ⟨u0, u1, u2, u3, sz3, bw3⟩ := KC.out w3 B3.out
    have BF3 := Lib.hid bw3
    clear bw3
    cases ht : tableB ⟨ns, cs⟩ T with
    | false =>
      have F : Hid (DepsRes ⟨ns, cs⟩ lv T w (.returned (.tuple #[.slice none 0 0, .int .i64 1])) w3) := ⟨BF3.out, .inl ⟨by rw [ht]; simp, rfl⟩⟩
      clear ht
      go_wp2_with fail
      go_ret2
      exact F.out
    | true =>
      have HTB := Lib.hid ht
      obtain ⟨hv, hlv2⟩ := orderB_len HO.out
      have HV := Lib.hid hv
      have HLV := Lib.hid hlv2
      obtain ⟨n16, c32⟩ := valid_sizes hv
      have TR := Lib.hid (tableB_row ht)
      simp only at TR HLV
      clear ht hv hlv2
      obtain ⟨w4, hw4⟩ : ∃ w4 : World, w3.alloc (.map #[] 0) = w4 := ⟨_, rfl⟩
      have b34 : Below w3.heap.size w3 w4 := by rw [← hw4]; exact (Below.refl _ _).alloc (Nat.le_refl _) _
      have B4 := Lib.hid (B3.out.trans (b34.mono B3.out.size))
      have ST : Hid (RelD1 cs lv T ns.length w3.heap.size w3 (.int .i64 0) w4) := by
        refine ⟨0, Nat.zero_le _, rfl, ?_, ?_⟩
        · rw [← hw4]; exact DSet.made w3
        · rw [← hw4]; exact (Below.refl _ _).alloc (Nat.le_refl _) _
      have H3 := Lib.hid (H1.out.below (Nat.le_refl _) B3.out)
      have L3 := Lib.hid (L1.out.below (Nat.le_refl _) B3.out)
      have T3 := Lib.hid (T1.out.below (Nat.le_refl _) B3.out)
      have sz30 : w.heap.size < w3.heap.size := by omega
      have hmul : IntKind.i64.wrap (2 * (cs.length : Int)) = 2 * (cs.length : Int) := IntWalk.i64_in _ (by omega)
      have HW4 := Lib.hid hw4
      clear hw4 b34
      go_wp2_with fail
      rw [HW4.out]
      clear HW4 hmm u0 u1 u2 u3 hmul
      go_loopw [33] (fun i wr => RelD1 cs lv T ns.length w3.heap.size w3 i wr) (fun i _ => 2 * cs.length - (RowKit.intOf i).toNat)
      case atStart => exact ST.out
      case round =>
        clear ST
        obtain ⟨k, hk, rfl, hS, bel⟩ := hrel
        have bs := bel.size
        have HS := Lib.hid hS
        have BE1 := Lib.hid bel
        obtain ⟨u0, u1, u2, u3, sz4, bw4⟩ := KC.out wr (B3.out.trans (bel.mono B3.out.size))
        have BF4 := Lib.hid bw4
        have hal := depA_len cs lv T ns.length k
        clear bw4 bel hS
        by_cases hkr : k < 2 * cs.length
        · obtain ⟨⟨nu0, nu1⟩, nv0, nv1⟩ := chEnds_node HV.out hkr
          have hcon := Lib.hid (cends_any cs An Ac ns.length cn cc (k : Int) wr hl2 ((H3.out.2).below (Nat.le_refl _) BE1.out) (by omega) (by omega))
          have DA := Lib.hid (depA_succ cs lv T ns.length k)
          have DC : Hid (depC cs lv T ns.length k = if lvAt lv (chEnds cs k).1 < 0 ∨ lvAt lv (chEnds cs k).2 < 0 then [] else depTo cs lv T k 0 ns.length ++ depTo cs lv T k 1 ns.length) := rfl
          have DCB := Lib.hid (depC_len cs lv T ns.length k)
          obtain ⟨iu, hiu⟩ : ∃ iu : Nat, (chEnds cs k).1 = iu := ⟨(chEnds cs k).1.toNat, by omega⟩
          obtain ⟨iv, hiv⟩ : ∃ iv : Nat, (chEnds cs k).2 = iv := ⟨(chEnds cs k).2.toNat, by omega⟩
          have EE1 := Lib.hid hiu
          have EE2 := Lib.hid hiv
          rw [hiu, hiv] at hcon DC
          rw [hiu] at nu0 nu1
          rw [hiv] at nv0 nv1
          have hiun : iu < ns.length := by omega
          have hivn : iv < ns.length := by omega
          have lln := HLV.out
          have jiu : iu < lv.length := by omega
          have jiv : iv < lv.length := by omega
          have kiu : (iu : Int) < (lv.length : Int) := by omega
          have kiv : (iv : Int) < (lv.length : Int) := by omega
          clear lln hiu hiv
          have LVU : Hid (lvAt lv (iu : Int) = lv.getD iu 0) := by rw [Hid]; unfold lvAt; rw [Int.toNat_natCast]
          have LVV : Hid (lvAt lv (iv : Int) = lv.getD iv 0) := by rw [Hid]; unfold lvAt; rw [Int.toNat_natCast]
          rw [LVU.out, LVV.out] at DC
          go_wp2_with fail
          refine hcon.out.mono ?_
          rintro e w5 ⟨rfl, bel5⟩
          have bs5 := bel5.size
          have BE5 := Lib.hid (BE1.out.trans (bel5.mono (by omega)))
          have HS5 := Lib.hid (HS.out.below bel5 HS.out.lt)
          clear u0 u1 u2 u3
          obtain ⟨u0, u1, u2, u3, sz5, bw5⟩ := KC.out w5 (B3.out.trans (BE5.out.mono B3.out.size))
          obtain ⟨bl, ol, hal1, hbl, hma, ea⟩ := int_at (L3.out.below (Nat.le_refl _) BE5.out) iu jiu
          obtain ⟨bl', ol', hal', _, hmb, eb⟩ := int_at (L3.out.below (Nat.le_refl _) BE5.out) iv jiv
          rw [hal1] at hal'
          injection hal' with hal'
          injection hal' with hal2 hal3
          subst hal2
          subst hal3
          generalize hva : lv.getD iu 0 = va at *
          generalize hvb : lv.getD iv 0 = vb at *
          obtain ⟨bt, ot, a0, c0, a1, c1, hat, hbt, hmt, e0, e1, r0, r1⟩ := T3.out.at_ iu (by have := TR.out.1; omega)
          rw [← BE5.out.cell (show bt < w3.heap.size from hbt)] at e0 e1
          have kiT : (iu : Int) < (T.length : Int) := by have := TR.out.1; omega
          have TL0 := (TR.out.2 iu 0 hiun (by omega)).1
          have TL1 := (TR.out.2 iu 1 hiun (by omega)).1
          generalize hTU : T.getD iu row0 = xu at *
          obtain ⟨l0, l1⟩ := xu
          simp only at e0 e1 r0 r1
          have HTU : Hid (T.getD iu row0 = (l0, l1)) := hTU
          have LL0 : Hid (l0.length = ns.length) := TL0
          have LL1 : Hid (l1.length = ns.length) := TL1
          have R0 := Lib.hid r0
          have R1 := Lib.hid r1
          clear hva hvb hTU TL0 TL1 hma hmb hmt bel5 bw5 LVU LVV
          have NEG : Hid (va < 0 ∨ vb < 0 → RelD1 cs lv T ns.length w3.heap.size w3 (.int .i64 ((k + 1 : Nat) : Int)) w5) := fun h => by
            rw [if_pos h] at DC
            exact ⟨k + 1, by omega, rfl, by rw [DA.out, DC.out, List.append_nil]; exact HS5.out, BE5.out⟩
          subst hat
          by_cases hn1 : va < 0
          · have R := Lib.hid (NEG.out (.inl hn1))
            clear NEG e0 e1 r0 r1
            subst hal1
            have R' : Hid (RelD1 cs lv T ns.length w3.heap.size w3 (.int .i64 ((k : Int) + 1)) w5) := by have := R.out; rw [Hid]; simpa using this
            go_wp2_with fail
            go_roundw
            case rel => exact R'.out
            case measure => simp [RowKit.intOf]; omega
          · by_cases hn2 : vb < 0
            · have R := Lib.hid (NEG.out (.inr hn2))
              clear NEG e0 e1 r0 r1
              subst hal1
              have R' : Hid (RelD1 cs lv T ns.length w3.heap.size w3 (.int .i64 ((k : Int) + 1)) w5) := by have := R.out; rw [Hid]; simpa using this
              go_wp2_with fail
              go_roundw
              case rel => exact R'.out
              case measure => simp [RowKit.intOf]; omega
            · rw [if_neg (by omega)] at DC
              have ha' := hal1
              clear NEG r0 r1
              obtain ⟨pre, hpre⟩ : ∃ pre, depA cs lv T ns.length k = pre := ⟨_, rfl⟩
              rw [hpre] at HS5 DA hal
              have hm1 : 2 * ns.length * k ≤ 2048 := by
                have h1 : 2 * ns.length ≤ 32 := by omega
                have h2 : k ≤ 64 := by omega
                exact Nat.mul_le_mul h1 h2
              have HPR0 : pre.length ≤ 2048 := by omega
              clear hpre hal hm1
              have FIN : Hid (∀ w', DSet w' w3.heap.size (pre ++ depTo cs lv T k 0 ns.length ++ depTo cs lv T k 1 ns.length).length (setOfD (pre ++ depTo cs lv T k 0 ns.length ++ depTo cs lv T k 1 ns.length)) → Below w3.heap.size w3 w' → RelD1 cs lv T ns.length w3.heap.size w3 (.int .i64 ((k + 1 : Nat) : Int)) w') := fun w' h1 h2 =>
                ⟨k + 1, by omega, rfl, by rw [DA.out, DC.out, ← List.append_assoc]; exact h1, h2⟩
              have pre0 := pre
              have ST2 : Hid (RelD2 cs lv T ns.length w3.heap.size k pre w3 (.int .i64 0) w5) := ⟨0, by omega, rfl, by simpa using HS5.out, BE5.out⟩
              subst hal1
              go_wp2_with fail
              clear e0 e1 ea eb u0 u1 u2 u3
              go_loopw [61] (fun i wr => RelD2 cs lv T ns.length w3.heap.size k pre w3 i wr) (fun i _ => 2 - (RowKit.intOf i).toNat)
              case atStart => exact ST2.out
              case round =>
                clear ST2
                obtain ⟨j, hj, rfl, hSJ, belJ⟩ := hrel
                have bsJ := belJ.size
                obtain ⟨u0, u1, u2, u3, szJ, bwJ⟩ := KC.out wr (B3.out.trans (belJ.mono B3.out.size))
                clear bwJ
                rcases (show j = 0 ∨ j = 1 ∨ j = 2 by omega) with rfl | rfl | rfl
                · simp only [if_true, List.append_nil, show (0 : Nat) ≠ 2 from by decide, if_false] at hSJ
                  have HSJ := Lib.hid hSJ
                  have BJ := Lib.hid belJ
                  have RNX : Hid (∀ w', DSet w' w3.heap.size (pre ++ depTo cs lv T k 0 ns.length).length (setOfD (pre ++ depTo cs lv T k 0 ns.length)) → Below w3.heap.size w3 w' → RelD2 cs lv T ns.length w3.heap.size k pre w3 (.int .i64 ((0 + 1 : Nat) : Int)) w') := fun w' h1 h2 => ⟨1, by omega, rfl, by simpa using h1, h2⟩
                  have HPL : Hid (pre.length ≤ 2064) := by rw [Hid]; omega
                  clear hSJ belJ
                  have LL0' := LL0.out
                  have hlv0 : l0.length ≤ 16 := by omega
                  clear LL0'
                  have hix : ∀ w', (Instr.index 91 (.agg #[.slice a0 l0.length c0, .slice a1 l1.length c1]) (.int .i64 0)).run Tryz.prog w' = .ok (.slice a0 l0.length c0) w' := fun w' => (ix2 _ _ w').1
                  have HX : Hid (phOf (T.getD iu row0) 0 = l0) := by rw [Hid, HTU.out]; rfl
                  have hprl : pre.length ≤ 2064 := HPL.out
                  have hcon := Lib.hid (above_any lv _ cl (iv : Int) (iu : Int) wr hlv (L3.out.below (Nat.le_refl _) BJ.out))
                  cases hab : aboveB lv (iv : Int) (iu : Int) with
                  | true =>
                    have AFV : Hid (aftV lv (iu : Int) (iv : Int) 0 = 0) := by rw [Hid]; unfold aftV; rw [hab]; rfl
                    rw [hab] at hcon
                    clear hab
                    go_wp2_with fail
                    refine hcon.out.mono ?_
                    rintro e w5 ⟨rfl, bel5⟩
                    have HSJ' := Lib.hid (HSJ.out.below bel5 HSJ.out.lt)
                    have BJ' := Lib.hid (BJ.out.trans (bel5.mono (by omega)))
                    have bs5' := bel5.size
                    clear bel5 HSJ BJ
                    have HSJ := HSJ'
                    have BJ := BJ'
                    clear HSJ' BJ'
                    go_wp2_with fail
                    go_loopw [75] (fun i wr => RelD3 cs lv T ns.length w3.heap.size k 0 pre w3 i wr) (fun i _ => ns.length - (RowKit.intOf i).toNat)
                    case atStart => exact ⟨0, Nat.zero_le _, rfl, by simpa [depTo] using HSJ.out, BJ.out⟩
                    case round =>
                      obtain ⟨t, ht, rfl, hS3, bel⟩ := hrel
                      have bs5 := bel.size
                      have BE := Lib.hid bel
                      obtain ⟨v0, v1, v2, v3, sz5, bw5⟩ := KC.out wr (B3.out.trans (bel.mono B3.out.size))
                      clear bw5
                      have hdl := depTo_len cs lv T k 0 t
                      by_cases htr : t < ns.length
                      · have htl : t < l0.length := by have := LL0.out; omega
                        obtain ⟨b1, o1, ha1, hb1, hm1, e1⟩ := int_at (R0.out.below (Nat.le_refl _) bel) t htl
                        obtain ⟨bv, ov, av0, cv0, av1, cv1, hav, hbv, hmv, ev0, ev1, rv0, rv1⟩ := (T3.out.below (Nat.le_refl _) bel).at_ iv (by have := TR.out.1; omega)
                        have hzl : t < (phOf (T.getD iv row0) 0).length := by rw [(TR.out.2 iv 0 hivn (by omega)).1]; exact htr
                        have PB := Lib.hid ((TR.out.2 iv 0 hivn (by omega)).2 t htr)
                        have LQ0 : Hid ((phOf (T.getD iv row0) 0).length = ns.length) := (TR.out.2 iv 0 hivn (by omega)).1
                        have DT : Hid (depT cs lv T k 0 t = if (l0.getD t 0 == ((k / 2 : Nat) : Int)) && decide (0 ≤ (phOf (T.getD iv row0) 0).getD t 0) then [((k : Int), leavV cs ((phOf (T.getD iv row0) 0).getD t 0) (iv : Int), (iv : Int))] else []) := by
                          rw [Hid]; unfold depT rowAt; rw [EE1.out, EE2.out, Int.toNat_natCast, Int.toNat_natCast, HX.out, AFV.out]
                        have DS := Lib.hid (depTo_succ cs lv T k 0 t)
                        generalize T.getD iv row0 = xv at *
                        obtain ⟨m0, m1⟩ := xv
                        simp only [phOf, if_true, Nat.one_ne_zero, if_false] at hzl PB LQ0 DT
                        simp only at ev0 ev1 rv0 rv1
                        obtain ⟨b2, o2, ha2, hb2, hm2, e2⟩ := int_at rv0 t hzl
                        subst ha1
                        injection hav with hav
                        injection hav with hav1 hav2
                        subst hav1
                        subst hav2
                        subst ha2
                        have HS3 := Lib.hid hS3
                        generalize l0.getD t 0 = y at *
                        generalize m0.getD t 0 = z at *
                        have z1 : (t : Int) < ((m0.length : Nat) : Int) := by omega
                        obtain ⟨kk, hkk⟩ : ∃ kk : Int, ((k / 2 : Nat) : Int) = kk := ⟨_, rfl⟩
                        rw [hkk] at DT
                        have hc2 : (k : Int) / 2 = kk := by omega
                        clear hkk
                        have nv1 : (iv : Int) < (T.length : Int) := by have := TR.out.1; omega
                        clear hmv hm1 hm2 hS3 bel rv0 rv1
                        cases hb : ((y == kk) && decide (0 ≤ z)) with
                        | false =>
                          have R : Hid (RelD3 cs lv T ns.length w3.heap.size k 0 pre w3 (.int .i64 ((t + 1 : Nat) : Int)) wr) := by
                            rw [hb] at DT
                            simp only [Bool.false_eq_true, if_false] at DT
                            exact ⟨t + 1, by omega, rfl, by rw [DS.out, DT.out, List.append_nil]; exact HS3.out, BE.out⟩
                          clear DS DT HS3
                          cases hy : y == kk with
                          | false =>
                            clear hb
                            go_wp2_with fail
                            exact ⟨by simpa using R.out, by simp [RowKit.intOf]; omega⟩
                          | true =>
                            have hz : decide (0 ≤ z) = false := by rw [hy] at hb; simpa using hb
                            have hz' : z < 0 := by simpa using hz
                            clear hb
                            go_wp2_with fail
                            exact ⟨by simpa using R.out, by simp [RowKit.intOf]; omega⟩
                        | true =>
                          have hy : (y == kk) = true := by rw [Bool.and_eq_true] at hb; exact hb.1
                          have hz : decide (0 ≤ z) = true := by rw [Bool.and_eq_true] at hb; exact hb.2
                          have hz0 : 0 ≤ z := of_decide_eq_true hz
                          have hzc := perm_lt PB.out hz0
                          rw [hb] at DT
                          simp only [if_true] at DT
                          have hbd := leavV_bd cs z (iv : Int)
                          have hcon := Lib.hid (leaving_any cs An Ac ns.length cn cc z (iv : Int) wr hl2 ((H3.out.2).below (Nat.le_refl _) BE.out) hz0 hzc)
                          clear hb
                          go_wp2_with fail
                          refine hcon.out.mono ?_
                          rintro e w6 ⟨rfl, bel6⟩
                          have B6 := Lib.hid (BE.out.trans (bel6.mono (by omega)))
                          have bs6 := bel6.size
                          have HS6 := Lib.hid (HS3.out.below bel6 HS3.out.lt)
                          generalize leavV cs z (iv : Int) = q at *
                          have wq1 := wf_small (k : Int) (by omega) (by omega)
                          have wq2 := wf_small q (by omega) (by omega)
                          have wq3 := wf_small (iv : Int) (by omega) (by omega)
                          have wq : WfDp ((k : Int), q, (iv : Int)) := ⟨wq1, wq2, wq3⟩
                          clear wq1 wq2 wq3
                          have WQ := Lib.hid wq
                          have hkey := keyDep wq
                          unfold encDp at hkey
                          simp only at hkey
                          have hom := HS6.out.2.2
                          have hln : (pre ++ depTo cs lv T k 0 t).length ≤ 4096 := by rw [List.length_append]; omega
                          generalize hprl : (pre ++ depTo cs lv T k 0 t).length = prl at *
                          have HPRL := Lib.hid hprl
                          clear bel6 wq v0 v1 v2 v3 ev0 ev1 e1 e2 hprl
                          go_wp2_with (at_mapUpdate; refine wpList_put _ rfl _ _ _ 93 rfl 69 4 lawDep Tryz.underlying93 w3.heap.size prl _ rfl hom ?c1 _ _ _ rfl rfl hkey ?_)
                          case c1 => unfold maxLen; omega
                          intro w7 hom7 hg7
                          have R : Hid (RelD3 cs lv T ns.length w3.heap.size k 0 pre w3 (.int .i64 ((t + 1 : Nat) : Int)) w7) := by
                            refine ⟨t + 1, by omega, rfl, ?_, B6.out.grown hg7 B6.out.size (by intro g h; injection h with h; omega)⟩
                            have := HS6.out.put WQ.out hom7
                            rw [DS.out, DT.out, ← List.append_assoc, setOfD_snoc, List.length_append, HPRL.out]
                            exact this
                          clear hom hom7 hg7 hkey DS DT
                          have R' : Hid (RelD3 cs lv T ns.length w3.heap.size k 0 pre w3 (.int .i64 ((t : Int) + 1)) w7) := by have := R.out; rw [Hid]; simpa using this
                          go_wp2_with fail
                          refine ⟨?_, by simp [RowKit.intOf]; omega⟩
                          first
                          | exact R'.out
                          | (simp; exact ⟨_, _, _, _, R'.out, rfl, rfl, rfl, rfl⟩)
                          | ((repeat apply Exists.intro); exact ⟨R'.out, rfl⟩)
                      · have htn : t = ns.length := by omega
                        have R := Lib.hid (RNX.out wr (htn ▸ hS3) bel)
                        have hnl : ¬ ((t : Int) < ((l0.length : Nat) : Int)) := by have := LL0.out; omega
                        clear hS3 bel htn
                        go_wp2_with fail
                        exact ⟨by simpa using R.out, by simp [RowKit.intOf]⟩
                  | false =>
                    have AFV : Hid (aftV lv (iu : Int) (iv : Int) 0 = 1) := by rw [Hid]; unfold aftV; rw [hab]; rfl
                    rw [hab] at hcon
                    clear hab
                    go_wp2_with fail
                    refine hcon.out.mono ?_
                    rintro e w5 ⟨rfl, bel5⟩
                    have HSJ' := Lib.hid (HSJ.out.below bel5 HSJ.out.lt)
                    have BJ' := Lib.hid (BJ.out.trans (bel5.mono (by omega)))
                    have bs5' := bel5.size
                    clear bel5 HSJ BJ
                    have HSJ := HSJ'
                    have BJ := BJ'
                    clear HSJ' BJ'
                    go_wp2_with fail
                    go_loopw [75] (fun i wr => RelD3 cs lv T ns.length w3.heap.size k 0 pre w3 i wr) (fun i _ => ns.length - (RowKit.intOf i).toNat)
                    case atStart => exact ⟨0, Nat.zero_le _, rfl, by simpa [depTo] using HSJ.out, BJ.out⟩
                    case round =>
                      obtain ⟨t, ht, rfl, hS3, bel⟩ := hrel
                      have bs5 := bel.size
                      have BE := Lib.hid bel
                      obtain ⟨v0, v1, v2, v3, sz5, bw5⟩ := KC.out wr (B3.out.trans (bel.mono B3.out.size))
                      clear bw5
                      have hdl := depTo_len cs lv T k 0 t
                      by_cases htr : t < ns.length
                      · have htl : t < l0.length := by have := LL0.out; omega
                        obtain ⟨b1, o1, ha1, hb1, hm1, e1⟩ := int_at (R0.out.below (Nat.le_refl _) bel) t htl
                        obtain ⟨bv, ov, av0, cv0, av1, cv1, hav, hbv, hmv, ev0, ev1, rv0, rv1⟩ := (T3.out.below (Nat.le_refl _) bel).at_ iv (by have := TR.out.1; omega)
                        have hzl : t < (phOf (T.getD iv row0) 1).length := by rw [(TR.out.2 iv 1 hivn (by omega)).1]; exact htr
                        have PB := Lib.hid ((TR.out.2 iv 1 hivn (by omega)).2 t htr)
                        have LQ1 : Hid ((phOf (T.getD iv row0) 1).length = ns.length) := (TR.out.2 iv 1 hivn (by omega)).1
                        have DT : Hid (depT cs lv T k 0 t = if (l0.getD t 0 == ((k / 2 : Nat) : Int)) && decide (0 ≤ (phOf (T.getD iv row0) 1).getD t 0) then [((k : Int), leavV cs ((phOf (T.getD iv row0) 1).getD t 0) (iv : Int), (iv : Int))] else []) := by
                          rw [Hid]; unfold depT rowAt; rw [EE1.out, EE2.out, Int.toNat_natCast, Int.toNat_natCast, HX.out, AFV.out]
                        have DS := Lib.hid (depTo_succ cs lv T k 0 t)
                        generalize T.getD iv row0 = xv at *
                        obtain ⟨m0, m1⟩ := xv
                        simp only [phOf, if_true, Nat.one_ne_zero, if_false] at hzl PB LQ1 DT
                        simp only at ev0 ev1 rv0 rv1
                        obtain ⟨b2, o2, ha2, hb2, hm2, e2⟩ := int_at rv1 t hzl
                        subst ha1
                        injection hav with hav
                        injection hav with hav1 hav2
                        subst hav1
                        subst hav2
                        subst ha2
                        have HS3 := Lib.hid hS3
                        generalize l0.getD t 0 = y at *
                        generalize m1.getD t 0 = z at *
                        have z1 : (t : Int) < ((m1.length : Nat) : Int) := by omega
                        obtain ⟨kk, hkk⟩ : ∃ kk : Int, ((k / 2 : Nat) : Int) = kk := ⟨_, rfl⟩
                        rw [hkk] at DT
                        have hc2 : (k : Int) / 2 = kk := by omega
                        clear hkk
                        have nv1 : (iv : Int) < (T.length : Int) := by have := TR.out.1; omega
                        clear hmv hm1 hm2 hS3 bel rv0 rv1
                        cases hb : ((y == kk) && decide (0 ≤ z)) with
                        | false =>
                          have R : Hid (RelD3 cs lv T ns.length w3.heap.size k 0 pre w3 (.int .i64 ((t + 1 : Nat) : Int)) wr) := by
                            rw [hb] at DT
                            simp only [Bool.false_eq_true, if_false] at DT
                            exact ⟨t + 1, by omega, rfl, by rw [DS.out, DT.out, List.append_nil]; exact HS3.out, BE.out⟩
                          clear DS DT HS3
                          cases hy : y == kk with
                          | false =>
                            clear hb
                            go_wp2_with fail
                            exact ⟨by simpa using R.out, by simp [RowKit.intOf]; omega⟩
                          | true =>
                            have hz : decide (0 ≤ z) = false := by rw [hy] at hb; simpa using hb
                            have hz' : z < 0 := by simpa using hz
                            clear hb
                            go_wp2_with fail
                            exact ⟨by simpa using R.out, by simp [RowKit.intOf]; omega⟩
                        | true =>
                          have hy : (y == kk) = true := by rw [Bool.and_eq_true] at hb; exact hb.1
                          have hz : decide (0 ≤ z) = true := by rw [Bool.and_eq_true] at hb; exact hb.2
                          have hz0 : 0 ≤ z := of_decide_eq_true hz
                          have hzc := perm_lt PB.out hz0
                          rw [hb] at DT
                          simp only [if_true] at DT
                          have hbd := leavV_bd cs z (iv : Int)
                          have hcon := Lib.hid (leaving_any cs An Ac ns.length cn cc z (iv : Int) wr hl2 ((H3.out.2).below (Nat.le_refl _) BE.out) hz0 hzc)
                          clear hb
                          go_wp2_with fail
                          refine hcon.out.mono ?_
                          rintro e w6 ⟨rfl, bel6⟩
                          have B6 := Lib.hid (BE.out.trans (bel6.mono (by omega)))
                          have bs6 := bel6.size
                          have HS6 := Lib.hid (HS3.out.below bel6 HS3.out.lt)
                          generalize leavV cs z (iv : Int) = q at *
                          have wq1 := wf_small (k : Int) (by omega) (by omega)
                          have wq2 := wf_small q (by omega) (by omega)
                          have wq3 := wf_small (iv : Int) (by omega) (by omega)
                          have wq : WfDp ((k : Int), q, (iv : Int)) := ⟨wq1, wq2, wq3⟩
                          clear wq1 wq2 wq3
                          have WQ := Lib.hid wq
                          have hkey := keyDep wq
                          unfold encDp at hkey
                          simp only at hkey
                          have hom := HS6.out.2.2
                          have hln : (pre ++ depTo cs lv T k 0 t).length ≤ 4096 := by rw [List.length_append]; omega
                          generalize hprl : (pre ++ depTo cs lv T k 0 t).length = prl at *
                          have HPRL := Lib.hid hprl
                          clear bel6 wq v0 v1 v2 v3 ev0 ev1 e1 e2 hprl
                          go_wp2_with (at_mapUpdate; refine wpList_put _ rfl _ _ _ 93 rfl 69 4 lawDep Tryz.underlying93 w3.heap.size prl _ rfl hom ?c1 _ _ _ rfl rfl hkey ?_)
                          case c1 => unfold maxLen; omega
                          intro w7 hom7 hg7
                          have R : Hid (RelD3 cs lv T ns.length w3.heap.size k 0 pre w3 (.int .i64 ((t + 1 : Nat) : Int)) w7) := by
                            refine ⟨t + 1, by omega, rfl, ?_, B6.out.grown hg7 B6.out.size (by intro g h; injection h with h; omega)⟩
                            have := HS6.out.put WQ.out hom7
                            rw [DS.out, DT.out, ← List.append_assoc, setOfD_snoc, List.length_append, HPRL.out]
                            exact this
                          clear hom hom7 hg7 hkey DS DT
                          have R' : Hid (RelD3 cs lv T ns.length w3.heap.size k 0 pre w3 (.int .i64 ((t : Int) + 1)) w7) := by have := R.out; rw [Hid]; simpa using this
                          go_wp2_with fail
                          refine ⟨?_, by simp [RowKit.intOf]; omega⟩
                          first
                          | exact R'.out
                          | (simp; exact ⟨_, _, _, _, R'.out, rfl, rfl, rfl, rfl⟩)
                          | ((repeat apply Exists.intro); exact ⟨R'.out, rfl⟩)
                      · have htn : t = ns.length := by omega
                        have R := Lib.hid (RNX.out wr (htn ▸ hS3) bel)
                        have hnl : ¬ ((t : Int) < ((l0.length : Nat) : Int)) := by have := LL0.out; omega
                        clear hS3 bel htn
                        go_wp2_with fail
                        exact ⟨by simpa using R.out, by simp [RowKit.intOf]⟩
                · simp only [Nat.one_ne_zero, if_false, List.append_nil, show (1 : Nat) ≠ 2 from by decide] at hSJ
                  have hd0 := depTo_len cs lv T k 0 ns.length
                  obtain ⟨pre1, hpre1⟩ : ∃ pre1, pre ++ depTo cs lv T k 0 ns.length = pre1 := ⟨_, rfl⟩
                  have HPL : Hid (pre1.length ≤ 2064) := by rw [Hid, ← hpre1, List.length_append]; omega
                  rw [hpre1] at hSJ
                  have HSJ := Lib.hid hSJ
                  have BJ := Lib.hid belJ
                  have RNX : Hid (∀ w', DSet w' w3.heap.size (pre1 ++ depTo cs lv T k 1 ns.length).length (setOfD (pre1 ++ depTo cs lv T k 1 ns.length)) → Below w3.heap.size w3 w' → RelD2 cs lv T ns.length w3.heap.size k pre w3 (.int .i64 ((1 + 1 : Nat) : Int)) w') := fun w' h1 h2 => ⟨2, by omega, rfl, by simp only [show (2 : Nat) ≠ 0 from by decide, if_false, if_true]; rw [hpre1]; exact h1, h2⟩
                  clear hSJ belJ hpre1 hd0
                  have LL1' := LL1.out
                  have hlv1 : l1.length ≤ 16 := by omega
                  clear LL1'
                  have hix : ∀ w', (Instr.index 91 (.agg #[.slice a0 l0.length c0, .slice a1 l1.length c1]) (.int .i64 1)).run Tryz.prog w' = .ok (.slice a1 l1.length c1) w' := fun w' => (ix2 _ _ w').2
                  have HX : Hid (phOf (T.getD iu row0) 1 = l1) := by rw [Hid, HTU.out]; rfl
                  have hprl : pre1.length ≤ 2064 := HPL.out
                  have AFV : Hid (aftV lv (iu : Int) (iv : Int) 1 = 1) := rfl
                  go_wp2_with fail
                  go_loopw [75] (fun i wr => RelD3 cs lv T ns.length w3.heap.size k 1 pre1 w3 i wr) (fun i _ => ns.length - (RowKit.intOf i).toNat)
                  case atStart => exact ⟨0, Nat.zero_le _, rfl, by simpa [depTo] using HSJ.out, BJ.out⟩
                  case round =>
                    obtain ⟨t, ht, rfl, hS3, bel⟩ := hrel
                    have bs5 := bel.size
                    have BE := Lib.hid bel
                    obtain ⟨v0, v1, v2, v3, sz5, bw5⟩ := KC.out wr (B3.out.trans (bel.mono B3.out.size))
                    clear bw5
                    have hdl := depTo_len cs lv T k 1 t
                    by_cases htr : t < ns.length
                    · have htl : t < l1.length := by have := LL1.out; omega
                      obtain ⟨b1, o1, ha1, hb1, hm1, e1⟩ := int_at (R1.out.below (Nat.le_refl _) bel) t htl
                      obtain ⟨bv, ov, av0, cv0, av1, cv1, hav, hbv, hmv, ev0, ev1, rv0, rv1⟩ := (T3.out.below (Nat.le_refl _) bel).at_ iv (by have := TR.out.1; omega)
                      have hzl : t < (phOf (T.getD iv row0) 1).length := by rw [(TR.out.2 iv 1 hivn (by omega)).1]; exact htr
                      have PB := Lib.hid ((TR.out.2 iv 1 hivn (by omega)).2 t htr)
                      have LQ1 : Hid ((phOf (T.getD iv row0) 1).length = ns.length) := (TR.out.2 iv 1 hivn (by omega)).1
                      have DT : Hid (depT cs lv T k 1 t = if (l1.getD t 0 == ((k / 2 : Nat) : Int)) && decide (0 ≤ (phOf (T.getD iv row0) 1).getD t 0) then [((k : Int), leavV cs ((phOf (T.getD iv row0) 1).getD t 0) (iv : Int), (iv : Int))] else []) := by
                        rw [Hid]; unfold depT rowAt; rw [EE1.out, EE2.out, Int.toNat_natCast, Int.toNat_natCast, HX.out, AFV.out]
                      have DS := Lib.hid (depTo_succ cs lv T k 1 t)
                      generalize T.getD iv row0 = xv at *
                      obtain ⟨m0, m1⟩ := xv
                      simp only [phOf, if_true, Nat.one_ne_zero, if_false] at hzl PB LQ1 DT
                      simp only at ev0 ev1 rv0 rv1
                      obtain ⟨b2, o2, ha2, hb2, hm2, e2⟩ := int_at rv1 t hzl
                      subst ha1
                      injection hav with hav
                      injection hav with hav1 hav2
                      subst hav1
                      subst hav2
                      subst ha2
                      have HS3 := Lib.hid hS3
                      generalize l1.getD t 0 = y at *
                      generalize m1.getD t 0 = z at *
                      have z1 : (t : Int) < ((m1.length : Nat) : Int) := by omega
                      obtain ⟨kk, hkk⟩ : ∃ kk : Int, ((k / 2 : Nat) : Int) = kk := ⟨_, rfl⟩
                      rw [hkk] at DT
                      have hc2 : (k : Int) / 2 = kk := by omega
                      clear hkk
                      have nv1 : (iv : Int) < (T.length : Int) := by have := TR.out.1; omega
                      clear hmv hm1 hm2 hS3 bel rv0 rv1
                      cases hb : ((y == kk) && decide (0 ≤ z)) with
                      | false =>
                        have R : Hid (RelD3 cs lv T ns.length w3.heap.size k 1 pre1 w3 (.int .i64 ((t + 1 : Nat) : Int)) wr) := by
                          rw [hb] at DT
                          simp only [Bool.false_eq_true, if_false] at DT
                          exact ⟨t + 1, by omega, rfl, by rw [DS.out, DT.out, List.append_nil]; exact HS3.out, BE.out⟩
                        clear DS DT HS3
                        cases hy : y == kk with
                        | false =>
                          clear hb
                          go_wp2_with fail
                          exact ⟨by simpa using R.out, by simp [RowKit.intOf]; omega⟩
                        | true =>
                          have hz : decide (0 ≤ z) = false := by rw [hy] at hb; simpa using hb
                          have hz' : z < 0 := by simpa using hz
                          clear hb
                          go_wp2_with fail
                          exact ⟨by simpa using R.out, by simp [RowKit.intOf]; omega⟩
                      | true =>
                        have hy : (y == kk) = true := by rw [Bool.and_eq_true] at hb; exact hb.1
                        have hz : decide (0 ≤ z) = true := by rw [Bool.and_eq_true] at hb; exact hb.2
                        have hz0 : 0 ≤ z := of_decide_eq_true hz
                        have hzc := perm_lt PB.out hz0
                        rw [hb] at DT
                        simp only [if_true] at DT
                        have hbd := leavV_bd cs z (iv : Int)
                        have hcon := Lib.hid (leaving_any cs An Ac ns.length cn cc z (iv : Int) wr hl2 ((H3.out.2).below (Nat.le_refl _) BE.out) hz0 hzc)
                        clear hb
                        go_wp2_with fail
                        refine hcon.out.mono ?_
                        rintro e w6 ⟨rfl, bel6⟩
                        have B6 := Lib.hid (BE.out.trans (bel6.mono (by omega)))
                        have bs6 := bel6.size
                        have HS6 := Lib.hid (HS3.out.below bel6 HS3.out.lt)
                        generalize leavV cs z (iv : Int) = q at *
                        have wq1 := wf_small (k : Int) (by omega) (by omega)
                        have wq2 := wf_small q (by omega) (by omega)
                        have wq3 := wf_small (iv : Int) (by omega) (by omega)
                        have wq : WfDp ((k : Int), q, (iv : Int)) := ⟨wq1, wq2, wq3⟩
                        clear wq1 wq2 wq3
                        have WQ := Lib.hid wq
                        have hkey := keyDep wq
                        unfold encDp at hkey
                        simp only at hkey
                        have hom := HS6.out.2.2
                        have hln : (pre1 ++ depTo cs lv T k 1 t).length ≤ 4096 := by rw [List.length_append]; omega
                        generalize hprl : (pre1 ++ depTo cs lv T k 1 t).length = prl at *
                        have HPRL := Lib.hid hprl
                        clear bel6 wq v0 v1 v2 v3 ev0 ev1 e1 e2 hprl
                        go_wp2_with (at_mapUpdate; refine wpList_put _ rfl _ _ _ 93 rfl 69 4 lawDep Tryz.underlying93 w3.heap.size prl _ rfl hom ?c1 _ _ _ rfl rfl hkey ?_)
                        case c1 => unfold maxLen; omega
                        intro w7 hom7 hg7
                        have R : Hid (RelD3 cs lv T ns.length w3.heap.size k 1 pre1 w3 (.int .i64 ((t + 1 : Nat) : Int)) w7) := by
                          refine ⟨t + 1, by omega, rfl, ?_, B6.out.grown hg7 B6.out.size (by intro g h; injection h with h; omega)⟩
                          have := HS6.out.put WQ.out hom7
                          rw [DS.out, DT.out, ← List.append_assoc, setOfD_snoc, List.length_append, HPRL.out]
                          exact this
                        clear hom hom7 hg7 hkey DS DT
                        have R' : Hid (RelD3 cs lv T ns.length w3.heap.size k 1 pre1 w3 (.int .i64 ((t : Int) + 1)) w7) := by have := R.out; rw [Hid]; simpa using this
                        go_wp2_with fail
                        refine ⟨?_, by simp [RowKit.intOf]; omega⟩
                        first
                        | exact R'.out
                        | (simp; exact ⟨_, _, _, _, R'.out, rfl, rfl, rfl, rfl⟩)
                        | ((repeat apply Exists.intro); exact ⟨R'.out, rfl⟩)
                    · have htn : t = ns.length := by omega
                      have R := Lib.hid (RNX.out wr (htn ▸ hS3) bel)
                      have hnl : ¬ ((t : Int) < ((l1.length : Nat) : Int)) := by have := LL1.out; omega
                      clear hS3 bel htn
                      go_wp2_with fail
                      exact ⟨by simpa using R.out, by simp [RowKit.intOf]⟩
                · simp only [show (2 : Nat) ≠ 0 from by decide, if_false, if_true] at hSJ
                  have R := Lib.hid (FIN.out wr hSJ belJ)
                  clear hSJ belJ
                  go_wp2_with fail
                  exact ⟨by simpa using R.out, by simp [RowKit.intOf]; omega⟩
        · obtain rfl : k = 2 * cs.length := by omega
          have hsl : (setOfD (depA cs lv T ns.length (2 * cs.length))).length ≤ 1000000 := by
            have h1 := setOfD_len (depA cs lv T ns.length (2 * cs.length))
            have h2 : 2 * ns.length * (2 * cs.length) ≤ 32 * 64 := Nat.mul_le_mul (by omega) (by omega)
            omega
          go_wp2_with fail
          refine (keysD_any _ _).mono ?_
          rintro e w5 ⟨rfl, rfl⟩
          have hcon := Lib.hid (sortedD_any wr.heap.size w3.heap.size _ (setOfD (depA cs lv T ns.length (2 * cs.length))) (wr.alloc (.cells #[.map (some w3.heap.size)] 93)) hsl (by simp) (by simp [go_sem]) (HS.out.alloc _))
          go_wp2_with fail
          refine hcon.out.mono ?_
          rintro e w6 ⟨v, rfl, own, bel6⟩
          have F : Hid (DepsRes ⟨ns, cs⟩ lv T w (.returned (.tuple #[v, .int .i64 0])) w6) := by
            refine ⟨BF4.out.trans (((Below.refl _ _).alloc (by omega) _).trans (bel6.mono (by simp; omega))), .inr ⟨by rw [HO.out, HTB.out]; rfl, v, rfl, own_mono own (by simp; omega)⟩⟩
          clear own bel6
          go_wp2_with fail
          go_ret2
          exact F.out
end Go.Proofs.YtljojgpjgjfddaaGreat
