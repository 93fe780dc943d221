/- The contract of channel.Cycle. -/
import Derived.Test.YtljojgpjgjfddaaCGroup
import Derived.Laws.EntriesVeiled
namespace Go.Proofs.Ytljojgpjgjfddaa
open Go.RowKit Go.Maps Go.Sort Go.Shelf
set_option linter.unusedVariables false

def nodesU (L : List Dp) : List Int := L.map (·.1) ++ L.map (·.2.1)
def cycL (L : List Dp) : List Int := cycOf (nxD L) ((nodesU L).length + 1) (keysL L)
def cycD (ds : List Dp) : List Int := cycL (unionD ds [])
theorem nodesU_next (L : List Dp) : ∀ c ∈ nodesU L, ∀ x ∈ nxD L c, x ∈ nodesU L := by
  intro c _ x hx
  unfold nxD at hx
  obtain ⟨d, hd, rfl⟩ := List.mem_map.1 hx
  exact List.mem_append.2 (.inr (List.mem_map.2 ⟨d, (List.mem_filter.1 hd).1, rfl⟩))
theorem nodesU_keys (L : List Dp) : ∀ c ∈ keysL L, c ∈ nodesU L := by
  intro c hc
  obtain ⟨d, hd, rfl⟩ := mem_keysL.1 hc
  exact List.mem_append.2 (.inl (List.mem_map.2 ⟨d, hd, rfl⟩))
theorem nodesU_wf {L : List Dp} (h : WfD L) : ∀ c ∈ nodesU L, (Lit.int .i64 c).wf = true := by
  intro c hc
  rcases List.mem_append.1 hc with h1 | h1
  · obtain ⟨d, hd, rfl⟩ := List.mem_map.1 h1; exact (h d hd).1
  · obtain ⟨d, hd, rfl⟩ := List.mem_map.1 h1; exact (h d hd).2.1
theorem mem_unionD {a b : List Dp} {x : Dp} : x ∈ unionD a b ↔ x ∈ a ∨ x ∈ b := by
  unfold unionD sortD
  rw [List.mem_mergeSort, mem_setOfD, List.mem_append]
theorem unionD_wf {a b : List Dp} (ha : WfD a) (hb : WfD b) : WfD (unionD a b) := fun d hd => by
  rcases mem_unionD.1 hd with h | h
  · exact ha d h
  · exact hb d h
theorem unionD_len (a b : List Dp) : (unionD a b).length ≤ a.length + b.length := by
  unfold unionD; rw [sortD_length]; have := setOfD_len (a ++ b); rwa [List.length_append] at this

def envC (W0 : World) (Q bN n : Nat) (M : Lit → Option Value) (nx : Int → List Int) : Env := { B := W0.heap.size, bS := Q, Bp := Q + 1 + 1, Bc := Q + 1 + 1 + 1, Bst := Q + 1, Bn := bN + 1, Bv := Q + 1 + 1 + 1 + 1, bN := bN, nN := n, M := M, W0 := W0, nx := nx }
theorem row_blk {w : World} {base : Nat} {e : TypeId} {size n cap : Nat} {a : Option Addr} {xs : List Value} (h : w.ownsRow base e size (.slice a n cap) n xs) : ∀ x, a = some x → x.block < w.heap.size := by
  intro x hx
  subst hx
  rcases h.2 with ⟨h1, _⟩ | ⟨g, c', cur, h1, _, hg, _⟩
  · cases h1
  · simp only [Value.slice.injEq, Option.some.injEq] at h1
    rw [h1.1]
    exact (Array.getElem?_eq_some_iff.1 hg).1
def RelG (L : List Dp) (bN : Nat) (w2 : World) (i : Value) (wr : World) : Prop :=
  ∃ (k : Nat) (M : Lit → Option Value), k ≤ L.length ∧ i = .int .i64 k ∧ GM wr w2.heap.size bN k M (L.take k) ∧ KB w2.heap.size [bN] w2 wr
def RelK (e : Env) (U : List Int) (f : Ens → List Int → Int → VR) (keys : List Int) (i : Value) (wr : World) : Prop :=
  ∃ k : Nat, k ≤ keys.length ∧ i = .int .i64 k ∧ (visL f (keys.take k) [] []).1 = false ∧ VW e U (visL f (keys.take k) [] []).2.1 [] wr

set_option maxRecDepth 100000 in
set_option maxHeartbeats 4000000 in
theorem cycle_any (ds : List Dp) (A : Option Addr) (c : Nat) (w : World) (hl : ds.length ≤ 10000) (wd : WfD ds) (h : IsRec 3 cD d0 w A ds.length ds) :
    Calls Try.prog 18 #[.slice A ds.length c] w (IntsPost (cycD ds) w) := by
  have hmm := @run_makeMap Try.prog
  have hL1 := unionD_len ds []
  have WL := Lib.hid (unionD_wf wd (b := []) (by intro d hd; cases hd))
  obtain ⟨w1, hw1⟩ : ∃ w1 : World, (w.alloc (.map #[] 0)).alloc (.cells #[.map (some w.heap.size)] 96) = w1 := ⟨_, rfl⟩
  have sz1 : w1.heap.size = w.heap.size + 2 := by rw [← hw1]; simp
  have B1 : Below w.heap.size w w1 := by rw [← hw1]; exact ((Below.refl _ _).alloc (Nat.le_refl _) _).alloc (by simp) _
  have GM1 : ∀ base, GM w1 base w.heap.size 0 (fun _ => none) [] := fun base => by rw [← hw1]; exact (GM.made w base).alloc _
  have BN1 : Blk w1 (w.heap.size + 1) 96 #[.map (some w.heap.size)] := by rw [← hw1]; have := Blk.new (w.alloc (.map #[] 0)) 96 #[.map (some w.heap.size)]; simpa using this
  have H1 := Lib.hid (h.below (Nat.le_refl _) B1)
  have SZ1 := Lib.hid sz1
  have HB1 := Lib.hid B1
  have HG1 := Lib.hid GM1
  have HBN1 := Lib.hid BN1
  have HW1 := Lib.hid hw1
  have WD := Lib.hid wd
  have hcon := Lib.hid (union_any ds [] A none c 0 w1 (by omega) (by simp) wd (by intro d hd; cases hd) H1.out (IsRec.nil w1))
  clear h wd hw1 sz1 B1 GM1 BN1
  go_enter Try.func18, Try.ntmps18
  go_wp2_with fail
  rw [HW1.out]
  refine hcon.out.mono ?_
  rintro e w2 ⟨v, rfl, own, bel⟩
  have UE : Hid (cycD ds = cycL (unionD ds [])) := rfl
  generalize unionD ds [] = L at *
  obtain ⟨aL, cL, rfl, _, recL, haL⟩ := rec_of_own (d := d0) (m := 3) cD_len3 (by decide) own
  have RL := Lib.hid recL
  have HAL : Hid (∀ x : Addr, aL = some x → x.block ∉ [w.heap.size]) := fun x hx => by have := haL x hx; have := SZ1.out; simp; omega
  have BN2 := Lib.hid (HBN1.out.below bel HBN1.out.lt)
  have bs2 := bel.size
  have sz2 : w.heap.size + 2 ≤ w2.heap.size := by have := SZ1.out; omega
  have B2 : Hid (Below w.heap.size w w2) := HB1.out.trans (bel.mono (by have := SZ1.out; omega))
  have ST : Hid (RelG L w.heap.size w2 (.int .i64 0) w2) := ⟨0, fun _ => none, Nat.zero_le _, rfl, (HG1.out w2.heap.size).below bel (Nat.le_refl _), KB.refl _ _ _⟩
  have hLl : L.length ≤ 10000 := by simp at hL1; omega
  clear own bel recL haL HG1 HBN1 H1 hL1 HW1 hcon hmm
  obtain ⟨i0, hi0, hz0, hz1, hz2⟩ := info_parts infoInt
  go_wp2_with fail
  go_loopw [16] (fun i wr => RelG L w.heap.size w2 i wr) (fun i _ => L.length - (RowKit.intOf i).toNat)
  case atStart => exact ST.out
  case round =>
    clear ST
    obtain ⟨k, M, hk, rfl, gm, kb⟩ := hrel
    have kbs := kb.size
    have cn := (kb.blk BN2.out (by omega) (by simp)).one.1
    by_cases hkr : k < L.length
    · obtain ⟨bb, off, hA, hbb, hmem, e0, e1, e2⟩ := dep_at (kb.isRec RL.out rfl HAL.out) k hkr
      have TS := Lib.hid (take_snocG d0 L k hkr)
      have wd := WL.out _ hmem
      generalize L.getD k d0 = x at *
      subst hA
      obtain ⟨df, dt, dn⟩ := x
      simp only at e0 e1 e2 wd
      obtain ⟨wdf, wdt, _⟩ := wd
      obtain ⟨wa, hwa⟩ : ∃ wa : World, wr.alloc (.cells #[.int .i64 df, .int .i64 dt, .int .i64 dn] 49) = wa := ⟨_, rfl⟩
      have ta : Blk wa wr.heap.size 49 #[.int .i64 df, .int .i64 dt, .int .i64 dn] := by rw [← hwa]; exact Blk.new _ _ _
      have gma : GM wa w2.heap.size w.heap.size k M (L.take k) := by rw [← hwa]; exact gm.alloc _
      have KBA : Hid (KB w2.heap.size [w.heap.size] w2 wa) := by rw [Hid, ← hwa]; exact kb.alloc (Nat.le_refl _) _
      have ct0 : wa.cell? ⟨wr.heap.size, 0, none⟩ = some (.int .i64 df) := ta.cell 0
      have ct1 : wa.cell? ⟨wr.heap.size, 1, none⟩ = some (.int .i64 dt) := ta.cell 1
      have cna : wa.cell? ⟨w.heap.size + 1, 0, none⟩ = some (.map (some w.heap.size)) := (KBA.out.blk BN2.out (by omega) (by simp)).one.1
      have OL : Hid (∀ g, ((M (.int .i64 df)).getD nilS).ownBlock = some g → w2.heap.size ≤ g ∧ g < wr.heap.size) := fun g hg => (gm.rows df).lt g hg
      have r1 := gma.om.drew.look (t := 96) (int_keyed Try.underlying3) Try.underlying96 (zeroInts wa.drew) (keyOf_int_mk Try.underlying3 wdf)
      have r2 := ((gma.om.alloc (.cells #[.int .i64 dt] 3)).drew).look (t := 96) (int_keyed Try.underlying3) Try.underlying96 (zeroInts _) (keyOf_int_mk Try.underlying3 wdf)
      have GMA := Lib.hid gma
      have OWD := Lib.hid (gma.rows df)
      have hnl := nxD_len (L.take k) df
      have htl : (L.take k).length ≤ L.length := by rw [List.length_take]; omega
      have HWA := Lib.hid hwa
      have sza : wr.heap.size < wa.heap.size := ta.lt
      have szn : w.heap.size + 1 < wa.heap.size := by omega
      have OMA : Hid (OMap wa Try.prog 3 w.heap.size k M) := gma.om
      have KEY := Lib.hid (keyOf_int_mk Try.underlying3 wdf)
      have SV : Hid ((M (.int .i64 df)).getD (.slice none 0 0) = (M (.int .i64 df)).getD nilS) := rfl
      clear hmem hwa ta gma gm kb
      go_wp2_with fail
      rw [HWA.out]
      clear e0 e1 e2 cn HWA
      generalize wr.heap.size = tb at *
      rw [SV.out] at r1 r2
      have STEP : Hid (∀ v2 wb w5, wb.ownsRow w2.heap.size 3 1 v2 ((nxD (L.take k) df).length + 1) ((nxD (L.take k) df).flatMap cI ++ [.int .i64 dt]) → ((wa.alloc (.cells #[.int .i64 dt] 3)).drew).grownBy wb ((M (.int .i64 df)).getD nilS).ownBlock → (v2.ownBlock = ((M (.int .i64 df)).getD nilS).ownBlock ∨ v2.ownBlock = some ((wa.alloc (.cells #[.int .i64 dt] 3)).drew).heap.size) →
          OMap w5 Try.prog 3 w.heap.size (k + 1) (putM M (.int .i64 df) v2) → wb.grownBy w5 (some w.heap.size) → RelG L w.heap.size w2 (.int .i64 ((k + 1 : Nat) : Int)) w5) := fun v2 wb w5 h1 h2 h3 h4 h5 => by
        refine ⟨k + 1, putM M (.int .i64 df) v2, by omega, rfl, ?_, ?_⟩
        · rw [TS.out]
          exact GM.step ((GMA.out.alloc _).drew) (by omega) h1 h2 h3 h4 h5
        · have k1 : KB w2.heap.size [w.heap.size] w2 wb := ((KBA.out.alloc (Nat.le_refl _) _).drew).grown (Nat.le_refl _) h2 (fun g hg => .inr (OL.out g hg).1)
          exact k1.grown (Nat.le_refl _) h5 (fun g hg => by injection hg with hg; subst hg; exact .inl (by simp))
      generalize (M (.int .i64 df)).getD nilS = sv at *
      have RD : Hid (Reads (wa.alloc (.cells #[.int .i64 dt] 3)).drew (wa.heap.size + 1) 1 (some ⟨wa.heap.size, 0, none⟩) 1 [.int .i64 dt]) := by
        refine ⟨rfl, fun _ => ⟨_, rfl, by simp, fun q u hu => ?_⟩⟩
        exact World.news_of_block (cs := #[.int .i64 dt]) (t := 3) (fr := (0, 0)) (heap_alloc_new wa _) q u hu
      have KA : Hid ((wa.alloc (.cells #[.int .i64 dt] 3)).drew.cell? ⟨w.heap.size + 1, 0, none⟩ = some (.map (some w.heap.size)) ∧ (wa.alloc (.cells #[.int .i64 dt] 3)).drew.cell? ⟨tb, 0, none⟩ = some (.int .i64 df) ∧ (wa.alloc (.cells #[.int .i64 dt] 3)).drew.cell? ⟨tb, 1, none⟩ = some (.int .i64 dt)) :=
        ⟨(World.cell?_alloc_lt wa _ ⟨w.heap.size + 1, 0, none⟩ szn).trans cna, (World.cell?_alloc_lt wa _ ⟨tb, 0, none⟩ sza).trans ct0, (World.cell?_alloc_lt wa _ ⟨tb, 1, none⟩ sza).trans ct1⟩
      go_region_held3 (fun w' => w'.cell? ⟨w.heap.size + 1, 0, none⟩ = some (.map (some w.heap.size)) ∧ w'.cell? ⟨tb, 0, none⟩ = some (.int .i64 df) ∧ w'.cell? ⟨tb, 1, none⟩ = some (.int .i64 dt))
        (first | exact ⟨cna, ct0, ct1⟩ | exact KA.out | exact KX.out | exact K5.out)
        (first | (refine step_append_any _ (by rfl) (.tmp 26) (.tmp 29) 35 (by rfl) w2.heap.size 3 i0 _ 1 8 Try.underlying35 hi0 hz0 hz1 hz2 rfl (by decide) _ _ _ (by rfl) ((OWD.out.alloc _).drew) _ (some ⟨wa.heap.size, 0, none⟩) 1 1 [.int .i64 dt] (by rfl) RD.out (by intro u hu; simp at hu; subst hu; rfl) ?_ ?_ ?_ ?_; (unfold maxLen; omega); omega; (simp; omega); intro v2 wb own2 gr2 loc2; have KX : Hid (wb.cell? ⟨w.heap.size + 1, 0, none⟩ = some (.map (some w.heap.size)) ∧ wb.cell? ⟨tb, 0, none⟩ = some (.int .i64 df) ∧ wb.cell? ⟨tb, 1, none⟩ = some (.int .i64 dt)) := ⟨(gr2.cell_far ⟨w.heap.size + 1, 0, none⟩ (by simp; omega) (fun h => by have := (OL.out _ h.symm).1; simp at this; omega)).trans KA.out.1, (gr2.cell_far ⟨tb, 0, none⟩ (by simp; omega) (fun h => by have := (OL.out _ h.symm).2; simp at this)).trans KA.out.2.1, (gr2.cell_far ⟨tb, 1, none⟩ (by simp; omega) (fun h => by have := (OL.out _ h.symm).2; simp at this)).trans KA.out.2.2⟩; obtain ⟨w5, hrun5, om5, g5⟩ := (((OMA.out.alloc _).drew).kept gr2 (fun h => by have := (OL.out _ h.symm).1; omega)).store (t := 96) (int_keyed Try.underlying3) Try.underlying96 (by unfold maxLen; omega) KEY.out v2; have K5 : Hid (w5.cell? ⟨w.heap.size + 1, 0, none⟩ = some (.map (some w.heap.size)) ∧ w5.cell? ⟨tb, 0, none⟩ = some (.int .i64 df) ∧ w5.cell? ⟨tb, 1, none⟩ = some (.int .i64 dt)) := ⟨(g5.cell_far ⟨w.heap.size + 1, 0, none⟩ (by have := gr2.size; simp at this; show w.heap.size + 1 < _; omega) (by simp)).trans KX.out.1, (g5.cell_far ⟨tb, 0, none⟩ (by have := gr2.size; simp at this; show tb < _; omega) (by simp; omega)).trans KX.out.2.1, (g5.cell_far ⟨tb, 1, none⟩ (by have := gr2.size; simp at this; show tb < _; omega) (by simp; omega)).trans KX.out.2.2⟩; have R := Lib.hid (STEP.out v2 wb w5 own2 gr2 loc2 om5 g5); clear own2 gr2 om5 g5 loc2))
      all_goals
        go_wp2_with fail
        exact ⟨by simpa using R.out, by simp [RowKit.intOf]; omega⟩
    · obtain rfl : k = L.length := by omega
      rw [List.take_length] at gm
      have szn : w.heap.size + 1 < wr.heap.size := by omega
      obtain ⟨W5, hW5⟩ : ∃ W5 : World, (((((wr.alloc (.map #[] 0)).alloc (.cells #[.map (some wr.heap.size)] 30)).alloc (.cells #[.slice none 0 0] 35)).alloc (.cells #[.slice none 0 0] 35)).alloc (.cells #[.func (.func 50) #[] #[.pointer (some ⟨wr.heap.size + 1, 0, none⟩), .pointer (some ⟨wr.heap.size + 1 + 1, 0, none⟩), .pointer (some ⟨wr.heap.size + 1 + 1 + 1, 0, none⟩), .pointer (some ⟨w.heap.size + 1, 0, none⟩), .pointer (some ⟨wr.heap.size + 1 + 1 + 1 + 1, 0, none⟩)]] 95)) = W5 := ⟨_, rfl⟩
      have bW5 : Below wr.heap.size wr W5 := by
        rw [← hW5]
        exact (((((Below.refl _ _).alloc (Nat.le_refl _) _).alloc (by simp) _).alloc (by simp; omega) _).alloc (by simp; omega) _).alloc (by simp; omega) _
      have cn5 : W5.cell? ⟨w.heap.size + 1, 0, none⟩ = some (.map (some w.heap.size)) := (bW5.cell (by exact szn)).trans cn
      have hmm := @run_makeMap Try.prog
      have GMR := Lib.hid gm
      have KBR := Lib.hid kb
      have bR : Hid (Below w.heap.size w wr) := B2.out.trans (kb.toBelow (A := w.heap.size) (by omega) (by simp))
      clear gm kb
      have PB : Hid (Blk W5 (wr.heap.size + 1) 30 #[.map (some wr.heap.size)] ∧ Blk W5 (wr.heap.size + 1 + 1) 35 #[.slice none 0 0] ∧ Blk W5 (wr.heap.size + 1 + 1 + 1) 35 #[.slice none 0 0] ∧ Blk W5 (wr.heap.size + 1 + 1 + 1 + 1) 95 #[.func (.func 50) #[] #[.pointer (some ⟨wr.heap.size + 1, 0, none⟩), .pointer (some ⟨wr.heap.size + 1 + 1, 0, none⟩), .pointer (some ⟨wr.heap.size + 1 + 1 + 1, 0, none⟩), .pointer (some ⟨w.heap.size + 1, 0, none⟩), .pointer (some ⟨wr.heap.size + 1 + 1 + 1 + 1, 0, none⟩)]] ∧ IM W5 wr.heap.size [] ∧ W5.heap.size = wr.heap.size + 5) := by
        rw [Hid, ← hW5]
        refine ⟨?_, ?_, ?_, ?_, ?_, by simp⟩
        · have h1 := Blk.new (wr.alloc (.map #[] 0)) 30 #[.map (some wr.heap.size)]
          rw [World.size_alloc] at h1
          exact ((h1.alloc _).alloc _).alloc _
        · have h1 := Blk.new ((wr.alloc (.map #[] 0)).alloc (.cells #[.map (some wr.heap.size)] 30)) 35 #[.slice none 0 0]
          rw [World.size_alloc, World.size_alloc] at h1
          exact (h1.alloc _).alloc _
        · have h1 := Blk.new (((wr.alloc (.map #[] 0)).alloc (.cells #[.map (some wr.heap.size)] 30)).alloc (.cells #[.slice none 0 0] 35)) 35 #[.slice none 0 0]
          rw [World.size_alloc, World.size_alloc, World.size_alloc] at h1
          exact h1.alloc _
        · have h1 := Blk.new ((((wr.alloc (.map #[] 0)).alloc (.cells #[.map (some wr.heap.size)] 30)).alloc (.cells #[.slice none 0 0] 35)).alloc (.cells #[.slice none 0 0] 35)) 95 #[.func (.func 50) #[] #[.pointer (some ⟨wr.heap.size + 1, 0, none⟩), .pointer (some ⟨wr.heap.size + 1 + 1, 0, none⟩), .pointer (some ⟨wr.heap.size + 1 + 1 + 1, 0, none⟩), .pointer (some ⟨w.heap.size + 1, 0, none⟩), .pointer (some ⟨wr.heap.size + 1 + 1 + 1 + 1, 0, none⟩)]]
          rw [World.size_alloc, World.size_alloc, World.size_alloc, World.size_alloc] at h1
          exact h1
        · exact ((((IMap.made wr Try.prog 3 3).alloc _).alloc _).alloc _).alloc _
      have GM5 := Lib.hid (GMR.out.below bW5 (Nat.le_refl _))
      have BW5 := Lib.hid bW5
      have BN5 : Hid (Blk W5 (w.heap.size + 1) 96 #[.map (some w.heap.size)]) := (KBR.out.blk BN2.out (by omega) (by simp)).below bW5 szn
      clear bW5
      go_wp2_with fail
      clear hW5 hmm
      refine (keysIS_any _ _).mono ?_
      rintro e w8 ⟨rfl, rfl⟩
      have hcon := Lib.hid (sortedIS_any W5.heap.size w.heap.size L.length w2.heap.size M L (W5.alloc (.cells #[.map (some w.heap.size)] 96)) (by simp) (by simp [go_sem]) (GM5.out.alloc _) (by omega))
      go_wp2_with fail
      refine hcon.out.mono ?_
      rintro e w9 ⟨vk, rfl, ownk, bel9⟩
      have b59 : Below W5.heap.size W5 w9 := ((Below.refl _ _).alloc (Nat.le_refl _) _).trans (bel9.mono (by simp))
      have bs9 := b59.size
      obtain ⟨ak, ck, rfl, _, reck, hak⟩ := rec_of_own (d := (0 : Int)) cI_length (by decide) ownk
      obtain ⟨p1, p2, p3, p4, p5, p6⟩ := PB.out
      have HK9 : Hid (∀ x : Addr, ak = some x → x.block ∉ [wr.heap.size, wr.heap.size + 1 + 1, wr.heap.size + 1 + 1 + 1]) := fun x hx => by have := hak x hx; simp at this; simp; omega
      have OKE : Hid (Env.Ok (envC w9 (wr.heap.size) (w.heap.size) L.length M (nxD L))) := by
        have X0 : ∀ g, g < wr.heap.size → g ∉ (envC w9 wr.heap.size w.heap.size L.length M (nxD L)).X := fun g hg => by simp [Env.X, envC]; omega
        refine ⟨rfl, ?_, ?_, ?_, ?_, p1.below b59 p1.lt, ?_, BN5.out.below b59 BN5.out.lt, X0 _ szn, p4.below b59 p4.lt, ?_, (GM5.out.om).below b59 GM5.out.om.lt, X0 _ (by show w.heap.size < _; omega), ?_⟩
        · show wr.heap.size < w9.heap.size; omega
        · show wr.heap.size + 1 + 1 < w9.heap.size; omega
        · show wr.heap.size + 1 + 1 + 1 < w9.heap.size; omega
        · show wr.heap.size + 1 + 1 ≠ wr.heap.size + 1 + 1 + 1; omega
        · intro h; simp only [Env.X, envC, List.mem_cons, List.not_mem_nil, or_false] at h; omega
        · intro h; simp only [Env.X, envC, List.mem_cons, List.not_mem_nil, or_false] at h; omega
        · intro c hc
          obtain ⟨a, cap, hv, _, hr, _⟩ := rec_of_own (d := (0 : Int)) cI_length (by decide) (GMR.out.rows c)
          refine ⟨a, cap, hv, by have := nxD_len L c; show (nxD L c).length ≤ _; omega, (hr.below (Nat.le_refl _) BW5.out).below (Nat.le_refl _) b59, fun x hx => X0 _ ?_⟩
          have hrow := GMR.out.rows c
          rw [hv] at hrow
          exact row_blk hrow x hx
      have UW := Lib.hid (nodesU_wf WL.out)
      have hUl : (nodesU L).length ≤ 20000 := by simp [nodesU]; omega
      have VA := Lib.hid (visit_any (envC w9 wr.heap.size w.heap.size L.length M (nxD L)) (nodesU L) UW.out (by omega) (nodesU_next L) OKE.out (nodesU L).length)
      have VS : Hid (VW (envC w9 wr.heap.size w.heap.size L.length M (nxD L)) (nodesU L) [] [] w9) :=
        ⟨KB.refl _ _ _, p5.below b59 p5.lt, by simp [keysE], ⟨.slice none 0 0, p2.below b59 p2.lt, World.ownsRow_nil _ _ _ _⟩, ⟨.slice none 0 0, p3.below b59 p3.lt⟩⟩
      have RK9 := Lib.hid reck
      have q9 : wr.heap.size + 5 ≤ w9.heap.size := by omega
      have hkl := keysL_len L
      have B9 : Hid (Below w.heap.size w w9) := (bR.out.trans (BW5.out.mono (by omega))).trans (b59.mono (by omega))
      have FE : Hid (cycL L = if (visL (vis (nxD L) ((nodesU L).length + 1)) (keysL L) [] []).1 = true then (visL (vis (nxD L) ((nodesU L).length + 1)) (keysL L) [] []).2.2.2 else []) := rfl
      clear ownk bel9 b59 reck hak p1 p2 p3 p4 p5 p6 PB cn5 cn
      generalize hQ : wr.heap.size = Q at *
      clear hQ
      go_wp2_with fail
      go_loopw [38] (fun i wr => RelK (envC w9 Q w.heap.size L.length M (nxD L)) (nodesU L) (vis (nxD L) ((nodesU L).length + 1)) (keysL L) i wr) (fun i _ => (keysL L).length - (RowKit.intOf i).toNat)
      case atStart => exact ⟨0, Nat.zero_le _, rfl, rfl, VS.out⟩
      case round =>
        obtain ⟨k, hk, rfl, hnf, vw⟩ := hrel
        have SPJ := Lib.hid (visL_spec (U := nodesU L) (k := (nodesU L).length) (f := vis (nxD L) ((nodesU L).length + 1)) (vis_spec (nodesU_next L) (nodesU L).length) ((keysL L).take k) [] [] (fun x hx => nodesU_keys L x (List.mem_of_mem_take hx)) (unv_le _ _) (DInv.nil _) (fun x _ => .inl rfl))
        have kbr := vw.1
        have kbs9 : w9.heap.size ≤ wr.heap.size := kbr.size
        by_cases hkr : k < (keysL L).length
        · obtain ⟨b1, o1, ha1, hb1, hm1, e1⟩ := int_at (kbr.isRec RK9.out rfl HK9.out) k hkr
          have TS := Lib.hid (take_snocG 0 (keysL L) k hkr)
          have TD : Hid ((keysL L).take (k + 1) ++ (keysL L).drop (k + 1) = keysL L) := List.take_append_drop _ _
          have cv := (kbr.blk OKE.out.vb OKE.out.vb.lt OKE.out.vX).one.1
          have HC := Lib.hid (VA.out (visL (vis (nxD L) ((nodesU L).length + 1)) ((keysL L).take k) [] []).2.1 [] ((keysL L).getD k 0) wr (nodesU_keys L _ hm1) (unv_le _ _) (SPJ.out.inv hnf) (.inl rfl) vw)
          have SN := Lib.hid (visL_snoc (f := vis (nxD L) ((nodesU L).length + 1)) (l := (keysL L).take k) (x := (keysL L).getD k 0) hnf)
          rw [SPJ.out.path hnf, ← TS.out] at SN
          generalize (keysL L).getD k 0 = x at *
          subst ha1
          unfold Env.clo ptr envC at cv
          simp only at cv
          unfold ptr envC at HC
          simp only at HC
          clear vw kbr hm1 TS
          go_wp2_with fail
          refine HC.out.mono ?_
          rintro en w4 ⟨rfl, ⟨hr, hkb, vc, hbc, hown⟩ | ⟨hr, hvw⟩⟩
          · rw [hr]
            have hkb' : KB w9.heap.size [Q, Q + 1 + 1, Q + 1 + 1 + 1] w9 w4 := hkb
            have hbc' : Blk w4 (Q + 1 + 1 + 1) 35 #[vc] := hbc
            have cc4 := hbc'.one.1
            have F : Hid (IntsPost (cycD ds) w (.returned vc) w4) := by
              rw [if_pos hr] at SN
              have hfd : (visL (vis (nxD L) ((nodesU L).length + 1)) ((keysL L).take (k + 1)) [] []).1 = true := by rw [SN.out]; exact hr
              have h2 := visL_found (m := (keysL L).drop (k + 1)) hfd
              rw [TD.out, SN.out] at h2
              rw [Hid, UE.out, FE.out, h2, if_pos hr]
              refine ⟨vc, rfl, own_mono hown (by show w.heap.size ≤ w9.heap.size; omega), B9.out.trans (hkb'.toBelow (A := w.heap.size) (by omega) (by simp; omega))⟩
            clear hkb hbc hown hr hkb' hbc' HC SN SPJ
            go_wp2_with fail
            go_ret
            exact F.out
          · rw [hr]
            have R : Hid (RelK (envC w9 Q w.heap.size L.length M (nxD L)) (nodesU L) (vis (nxD L) ((nodesU L).length + 1)) (keysL L) (.int .i64 ((k + 1 : Nat) : Int)) w4) := by
              rw [if_neg (by rw [hr]; simp)] at SN
              refine ⟨k + 1, by omega, rfl, by rw [SN.out], ?_⟩
              rw [SN.out]
              have hnf2 : (visL (vis (nxD L) ((nodesU L).length + 1)) ((keysL L).take (k + 1)) [] []).1 = false := by rw [SN.out]
              have hs2 := visL_spec (U := nodesU L) (k := (nodesU L).length) (f := vis (nxD L) ((nodesU L).length + 1)) (vis_spec (nodesU_next L) (nodesU L).length) ((keysL L).take (k + 1)) [] [] (fun x hx => nodesU_keys L x (List.mem_of_mem_take hx)) (unv_le _ _) (DInv.nil _) (fun x _ => .inl rfl)
              have hp2 := hs2.path hnf2
              rw [SN.out] at hp2
              simp only at hp2 ⊢
              rw [hp2] at hvw
              exact hvw
            clear hvw hr HC SN SPJ
            go_wp2_with fail
            exact ⟨by simpa using R.out, by simp [RowKit.intOf]; omega⟩
        · obtain rfl : k = (keysL L).length := by omega
          rw [List.take_length] at hnf
          have hkb' : KB w9.heap.size [Q, Q + 1 + 1, Q + 1 + 1 + 1] w9 wr := kbr
          have F : Hid (IntsPost (cycD ds) w (.returned (.slice none 0 0)) wr) := by
            rw [Hid, UE.out, FE.out, if_neg (by rw [hnf]; simp)]
            exact ⟨_, rfl, World.ownsRow_nil _ _ _ _, B9.out.trans (hkb'.toBelow (A := w.heap.size) (by omega) (by simp; omega))⟩
          clear vw kbr hkb' hnf SPJ
          go_wp2_with fail
          go_ret
          exact F.out
end Go.Proofs.Ytljojgpjgjfddaa
