/- The contract of the function visit inside channel.Cycle. -/
import Derived.Test.YtljojgpjgjfddaaCEnv
namespace Go.Proofs.Ytljojgpjgjfddaa
open Go.RowKit Go.Maps
set_option linter.unusedVariables false

theorem Blk.one {w : World} {g : Nat} {t : TypeId} {v : Value} (h : Blk w g t #[v]) : w.cell? ⟨g, 0, none⟩ = some v ∧ w.frozen? ⟨g, 0, none⟩ = false := ⟨by rw [h.cell]; rfl, h.frozen 0⟩
theorem Blk.set0 {w : World} {g : Nat} {t : TypeId} {v : Value} (h : Blk w g t #[v]) (u : Value) : Blk (w.setCell ⟨g, 0, none⟩ u) g t #[u] := by
  have := h.set_ 0 u
  simpa using this
theorem own_drop {w : World} {base : Nat} {e : TypeId} {g cap n : Nat} {p : List Int} (h : w.ownsRow base e 1 (.slice (some ⟨g, 0, none⟩) n cap) n (p.flatMap cI)) (i : Nat) (hi : i < n) :
    IsRec 1 cI 0 w (some ⟨g, i, none⟩) (n - i) (p.drop i) := by
  obtain ⟨a, c', hv, _, hr, _⟩ := rec_of_own (d := (0 : Int)) cI_length (by decide) h
  simp only [Value.slice.injEq, true_and] at hv
  obtain ⟨rfl, _⟩ := hv
  refine ⟨by rw [List.length_drop, hr.1], fun h0 => ?_⟩
  obtain ⟨b, off, e1, hlt, hc⟩ := hr.2 (by omega)
  simp only [Option.some.injEq, Addr.mk.injEq, and_true] at e1
  obtain ⟨rfl, rfl⟩ := e1
  refine ⟨g, i, rfl, hlt, fun j q hj hq => ?_⟩
  obtain rfl : q = 0 := by omega
  have := hc (i + j) 0 (by omega) (by omega)
  have e2 : (p.drop i).getD j 0 = p.getD (i + j) 0 := by simp [List.getD, List.getElem?_drop]
  rw [e2, ← this]
  congr 2
  omega
theorem own_cut {w : World} {base : Nat} {e : TypeId} {g cap n : Nat} {p : List Int} (h : w.ownsRow base e 1 (.slice (some ⟨g, 0, none⟩) n cap) n (p.flatMap cI)) (m : Nat) (hm : m ≤ n) :
    w.ownsRow base e 1 (.slice (some ⟨g, 0, none⟩) m cap) m ((p.take m).flatMap cI) := by
  have hl : p.length = n := by have := h.1; rw [flatG_length cI_length] at this; omega
  rcases h.2 with ⟨hv, _⟩ | ⟨g', cap', cur, hv, hb, hg, r1, r2, r3, r4⟩
  · cases hv
  · simp only [Value.slice.injEq, Option.some.injEq, Addr.mk.injEq, and_true, true_and] at hv
    obtain ⟨rfl, rfl⟩ := hv
    refine ⟨by rw [flatG_length cI_length, List.length_take]; omega, .inr ⟨g, cap, cur, rfl, hb, hg, by omega, r2, r3, ?_⟩⟩
    rw [cI_map, List.map_take, ← cI_map, ← r4, List.take_take]
    congr 1
    omega
section
variable {P : Program} (w : World) {ops : Array Oper} {rest : List Oper} {o : Oper} {a : Act} {Q : Exit → Act → World → Prop}
theorem wpList_putI (hg : o.guard = none) (m x v : Operand) (t : TypeId) (hop : o.op = Op.mapUpdate t m x v)
    (k e : TypeId) (hk : P.underlying k = some (.int .i64)) (he : P.underlying e = some (.int .i64)) (ht : P.underlying t = some (.map k e)) (b : Nat) (E : Ens)
    (hm : a.eval m = .map (some b)) (hown : IMap P k e w b E) (hn : E.length < maxLen) (key val : Int) (hx : a.eval x = .int .i64 key) (hv : a.eval v = .int .i64 val) (wk : (Lit.int .i64 key).wf = true) (wv : (Lit.int .i64 val).wf = true)
    (hK : ∀ w', IMap P k e w' b (putE E key val) → w.grownBy w' (some b) → wpList P ops Q rest (a.put o.dst undef) w') : wpList P ops Q (o :: rest) a w :=
  wpList_plain hg fun _ hK' => wp_putI w m x v t hop k e hk he ht b E hm hown hn key val hx hv wk wv fun w' h1 h2 => hK' _ _ (hK w' h1 h2)
end
theorem zeroInts (w : World) : (zeroValue 35).run Try.prog w = .ok (.slice none 0 0) w := by kernel_rfl

theorem ownsRow_pos {W : World} {base : Nat} {e : TypeId} {size : Nat} {v : Value} {k : Nat} {xs : List Value} (hk : 0 < k) (h : W.ownsRow base e size v k xs) : ∃ g cap, v = .slice (some ⟨g, 0, none⟩) k cap := by
  rcases h.2 with ⟨_, h0⟩ | ⟨g, cap, _, rfl, _⟩
  · omega
  · exact ⟨g, cap, rfl⟩
section
variable (e : Env) (he : e.Ok) (U : List Int)
set_option maxRecDepth 100000 in
set_option maxHeartbeats 2000000 in
theorem visit_open (hUw : ∀ c ∈ U, (Lit.int .i64 c).wf = true) (hUl : U.length ≤ 100000) (E : Ens) (p : List Int) (c : Int) (w : World) (hc : c ∈ U) (hI : DInv e.nx E p) (hW : VW e U E p w) (h1 : stE E c = 1) (he : e.Ok) :
    Calls Try.prog 50 #[.int .i64 c, ptr e.Bst, ptr e.Bp, ptr e.Bc, ptr e.Bn, ptr e.Bv] w (VPost e U (true, E, p, p.drop (p.idxOf c))) := by
  have hcp : c ∈ p := (hI.open_ c).1 h1
  obtain ⟨kb, im, hk, ⟨v, bp, own⟩, vc, bc⟩ := hW
  have hpl := path_len hI hk
  have hB := he.hB
  have cst := (kb.blk he.stb (by have := he.stb.lt; omega) he.stX).one.1
  have r1 := im.look (t := 30) Try.underlying3 Try.underlying3 Try.underlying30 (zeroInt w) (hUw c hc)
  rw [show (lookE E c).getD 0 = 1 from h1] at r1
  have hi : p.idxOf c < p.length := List.idxOf_lt_length_iff.2 hcp
  obtain ⟨g, cap, rfl, hnc⟩ : ∃ g cap, v = .slice (some ⟨g, 0, none⟩) p.length cap ∧ p.length ≤ cap := by
    rcases own.2 with ⟨_, h0⟩ | ⟨g, cap, cur, rfl, _, _, r, _⟩
    · omega
    · exact ⟨g, cap, rfl, r⟩
  have RC := Lib.hid (own_drop own (p.idxOf c) hi)
  obtain ⟨a2, c2, hv2, _, rec2, _⟩ := rec_of_own (d := (0 : Int)) cI_length (by decide) own
  simp only [Value.slice.injEq, true_and] at hv2
  obtain ⟨rfl, rfl⟩ := hv2
  have R2 := Lib.hid rec2
  obtain ⟨cp, fp⟩ := bp.one
  obtain ⟨cc, fc⟩ := bc.one
  have IZ : Hid (idxZ p c = (p.idxOf c : Nat)) := by rw [Hid]; unfold idxZ; rw [if_pos hcp]
  have DL : Hid ((p.drop (p.idxOf c)).length = p.length - p.idxOf c) := by rw [Hid, List.length_drop]
  have BC0 := Lib.hid bc
  have KB0 := Lib.hid kb
  have lc := he.lc
  have lp := he.lp
  have pc : e.Bp ≠ e.Bc := he.pc
  have kbs := kb.size
  have cX : e.Bc ∈ e.X := by simp [Env.X]
  clear own rec2 bp bc kb im hk hI h1 hcp fp
  generalize hix : p.idxOf c = ix at *
  clear hix
  have lpw : e.Bp < w.heap.size := by omega
  have lcw : e.Bc < w.heap.size := by omega
  have FIN : Hid (∀ w' vc', KB e.B e.X e.W0 w' → Blk w' e.Bc 35 #[vc'] → w'.ownsRow e.B 3 1 vc' (p.drop ix).length ((p.drop ix).flatMap cI) → VPost e U (true, E, p, p.drop ix) (.returned (.bool true)) w') := fun w' vc' h1 h2 h3 => ⟨rfl, .inl ⟨rfl, h1, vc', h2, h3⟩⟩
  have KBS : Hid (∀ w' u, Below w.heap.size w w' → KB e.B e.X e.W0 (w'.setCell ⟨e.Bc, 0, none⟩ u) ∧ Blk (w'.setCell ⟨e.Bc, 0, none⟩ u) e.Bc 35 #[u]) := fun w' u hb =>
    ⟨(KB0.out.below (by omega) hb).setCell (by omega) (.inl cX) u, (BC0.out.below hb lcw).set0 u⟩
  unfold ptr
  generalize e.Bc = Bc at *
  have i0 : (0 : Int) ≤ (ix : Int) := by omega
  have i1 : (ix : Int) ≤ (p.length : Int) := by omega
  have i2 : (p.length : Int) ≤ (cap : Int) := by omega
  have i3 : ¬ cap = ix := by omega
  go_enter Try.func50, Try.ntmps50
  go_wp2_with fail
  go_region_held3 (fun w' => w'.cell? ⟨e.Bp, 0, none⟩ = some (.slice (some ⟨g, 0, none⟩) p.length cap))
    (first | exact cp | exact CP3.out | exact CP4.out _)
    (first
      | (go_at_call 51; refine (idxE_any c p _ _ _ (by omega) (by exact R2.out)).mono ?_; rintro e w' ⟨rfl, rfl⟩; rw [IZ.out])
      | (go_at_call 35; have hcl := cloneI_any (some ⟨g, ix, none⟩) (cap - ix) (p.drop ix) w.drew (by rw [DL.out]; omega) (by rw [DL.out]; omega) (by rw [DL.out]; exact RC.out); rw [DL.out] at hcl; refine hcl.mono ?_; rintro e w3 ⟨v3, rfl, own3, bel3⟩; obtain ⟨g3, c3, rfl⟩ := ownsRow_pos (by rw [DL.out]; omega) own3; have CP3 : Hid (w3.cell? ⟨_, 0, none⟩ = some _) := (bel3.cell (by exact lpw)).trans cp; have cc3 := (bel3.cell (p := ⟨_, 0, none⟩) lcw).trans cc; have fc3 := (bel3.frozen (p := ⟨_, 0, none⟩) lcw).trans fc; have CP4 : Hid (∀ u, (w3.setCell ⟨Bc, 0, none⟩ u).cell? ⟨_, 0, none⟩ = some _) := fun u => (World.cell?_setCell_other _ _ _ _ (by intro h; injection h with h; exact pc h.symm)).trans CP3.out; have OWN3 := Lib.hid own3; have BEL3 := Lib.hid bel3; clear own3 bel3))
  all_goals
    obtain ⟨k1, k2⟩ := KBS.out w3 (.slice (some ⟨g3, 0, none⟩) (p.length - ix) c3) (((Below.refl _ _).drew).trans BEL3.out)
    have F := Lib.hid (FIN.out _ _ k1 k2 (by
      rw [DL.out] at *
      exact (own_mono OWN3.out (by simp; omega)).kept (only_setCell (only_refl w3 (some Bc)) (.inl rfl) _) (.inr (by simp [Value.ownBlock]; have := (OWN3.out.lt g3 rfl).1; simp at this; omega))))
    clear k1 k2
    go_wp2_with fail
    go_ret
    exact F.out
set_option maxRecDepth 100000 in
set_option maxHeartbeats 2000000 in
theorem visit_closed (hUw : ∀ c ∈ U, (Lit.int .i64 c).wf = true) (E : Ens) (p : List Int) (c : Int) (w : World) (hc : c ∈ U) (hW : VW e U E p w) (h1 : stE E c = 2) (he : e.Ok) :
    Calls Try.prog 50 #[.int .i64 c, ptr e.Bst, ptr e.Bp, ptr e.Bc, ptr e.Bn, ptr e.Bv] w (VPost e U (false, E, p, [])) := by
  have F : Hid (VPost e U (false, E, p, []) (.returned (.bool false)) w) := ⟨rfl, .inr ⟨rfl, hW⟩⟩
  obtain ⟨kb, im, hk, ⟨v, bp, own⟩, vc, bc⟩ := hW
  have hB := he.hB
  have cst := (kb.blk he.stb (by have := he.stb.lt; omega) he.stX).one.1
  have r1 := im.look (t := 30) Try.underlying3 Try.underlying3 Try.underlying30 (zeroInt w) (hUw c hc)
  rw [show (lookE E c).getD 0 = 2 from h1] at r1
  clear own bp bc kb im hk h1
  unfold ptr
  go_enter Try.func50, Try.ntmps50
  go_wp2_with fail
  go_ret
  exact F.out
def RelV (f : Ens → List Int → Int → VR) (c : Int) (E1 : Ens) (p1 : List Int) (i : Value) (wr : World) : Prop :=
  ∃ j : Nat, j ≤ (e.nx c).length ∧ i = .int .i64 j ∧ (visL f ((e.nx c).take j) E1 p1).1 = false ∧ VW e U (visL f ((e.nx c).take j) E1 p1).2.1 p1 wr
set_option maxRecDepth 100000 in
set_option maxHeartbeats 4000000 in
theorem visit_new (hUw : ∀ c ∈ U, (Lit.int .i64 c).wf = true) (hUl : U.length ≤ 100000) (hUc : ∀ c ∈ U, ∀ x ∈ e.nx c, x ∈ U) (he : e.Ok) (k : Nat)
    (H : ∀ (E : Ens) (p : List Int) (c : Int) (w : World), c ∈ U → unv U E ≤ k → DInv e.nx E p → Link e.nx p c → VW e U E p w →
      Calls Try.prog 50 #[.int .i64 c, ptr e.Bst, ptr e.Bp, ptr e.Bc, ptr e.Bn, ptr e.Bv] w (VPost e U (vis e.nx (k + 1) E p c)))
    (E : Ens) (p : List Int) (c : Int) (w : World) (hc : c ∈ U) (hu : unv U E ≤ k + 1) (hI : DInv e.nx E p) (hL : Link e.nx p c) (hW : VW e U E p w) (h0 : stE E c = 0) :
    Calls Try.prog 50 #[.int .i64 c, ptr e.Bst, ptr e.Bp, ptr e.Bc, ptr e.Bn, ptr e.Bv] w (VPost e U (vis e.nx (k + 2) E p c)) := by
  have EQ : Hid (vis e.nx (k + 2) E p c = if (visL (vis e.nx (k + 1)) (e.nx c) (putE E c 1) (p ++ [c])).1 = true then visL (vis e.nx (k + 1)) (e.nx c) (putE E c 1) (p ++ [c]) else (false, putE (visL (vis e.nx (k + 1)) (e.nx c) (putE E c 1) (p ++ [c])).2.1 c 2, (visL (vis e.nx (k + 1)) (e.nx c) (putE E c 1) (p ++ [c])).2.2.1.dropLast, [])) := by
    rw [Hid, vis, if_neg (by rw [h0]; decide), if_neg (by rw [h0]; decide)]
  have hu1 := unv_put hc h0 (v := 1) (by decide)
  have hu2 : unv U (putE E c 1) ≤ k := by omega
  have hI1 := hI.push h0 hL
  have SP : Hid (∀ j, VSpec e.nx (putE E c 1) (p ++ [c]) ((e.nx c).take j) (visL (vis e.nx (k + 1)) ((e.nx c).take j) (putE E c 1) (p ++ [c]))) := fun j =>
    visL_spec (U := U) (k := k) (f := vis e.nx (k + 1)) (vis_spec hUc k) ((e.nx c).take j) (putE E c 1) (p ++ [c]) (fun x hx => hUc c hc x (List.mem_of_mem_take hx)) (by omega) hI1 (fun x hx => link_push (List.mem_of_mem_take hx))
  have wfc := hUw c hc
  obtain ⟨kb, im, hk, ⟨v, bp, own⟩, vc, bc⟩ := hW
  have hpl := path_len hI hk
  have hel := ens_len im.nodup hk
  have hk1 := Lib.hid (keys_put (v := 1) hk hc)
  have HB := Lib.hid he.hB
  have hB1 : e.B ≤ e.W0.heap.size := by have := HB.out; omega
  have hB2 : e.W0.heap.size ≤ e.B := by have := HB.out; omega
  have kbs := kb.size
  have cst := (kb.blk he.stb (by have := he.stb.lt; omega) he.stX).one.1
  have r1 := im.look (t := 30) Try.underlying3 Try.underlying3 Try.underlying30 (zeroInt w) wfc
  rw [show (lookE E c).getD 0 = 0 from h0] at r1
  obtain ⟨cp, fp⟩ := bp.one
  obtain ⟨i0, hi0, hz0, hz1, hz2⟩ := info_parts infoInt
  have sp : e.bS ≠ e.Bp := im.ne_blk bp
  have sc : e.bS ≠ e.Bc := im.ne_blk bc
  have pc := he.pc
  have lS := he.lS
  have lp := he.lp
  have lc := he.lc
  have BP := Lib.hid bp
  have BC := Lib.hid bc
  have KB0 := Lib.hid kb
  have OWN := Lib.hid own
  have HH := Lib.hid H
  have UC := Lib.hid hUc
  have UW := Lib.hid hUw
  clear hI hL hk H bp bc kb own hUc hUw h0 hu hI1
  unfold ptr
  go_enter Try.func50, Try.ntmps50
  go_wp2_with (at_mapUpdate; refine wpList_putI _ rfl _ _ _ 30 rfl 3 3 Try.underlying3 Try.underlying3 Try.underlying30 e.bS E rfl im ?c1 c 1 rfl rfl wfc (by decide) ?_)
  case c1 => unfold maxLen; omega
  intro w1 im1 g1
  have cp1 : w1.cell? ⟨e.Bp, 0, none⟩ = some v := by rw [g1.cell_far ⟨e.Bp, 0, none⟩ (by show e.Bp < _; omega) (by simp; omega)]; exact cp
  have BP1 : Hid (Blk w1 e.Bp 35 #[v]) := BP.out.grown g1 (by simp; omega)
  have BC1 : Hid (Blk w1 e.Bc 35 #[vc]) := BC.out.grown g1 (by simp; omega)
  have KB1 : Hid (KB e.B e.X e.W0 w1) := KB0.out.grown (by omega) g1 (fun g h => by injection h with h; subst h; exact .inl (by simp [Env.X]))
  have own1 : w1.ownsRow e.B 3 1 v p.length (p.flatMap cI) := own_keptJ OWN.out g1 (fun q hq => by have := (OWN.out.lt q hq).1; omega)
  have OG : Hid (∀ g, v.ownBlock = some g → e.B ≤ g) := fun g h => (own1.lt g h).1
  have hs1 := g1.size
  have IM1 := Lib.hid im1
  clear im1 g1 im cst cp fp r1 BP BC KB0
  go_wp2_with (at_builtin; refine wpList_append_own _ rfl _ _ 35 rfl e.B 3 i0 _ 1 8 Try.underlying35 hi0 hz0 hz1 hz2 rfl (by decide) _ _ _ rfl (own1.alloc _) ⟨w1.heap.size, 0, none⟩ 1 1 [.int .i64 c] rfl rfl (World.news_of_block (cs := #[.int .i64 c]) (t := 3) (fr := (0, 0)) (heap_alloc_new w1 _)) ?n2 ?n3 ?n4 ?n5 ?_)
  case n2 => intro u hu; simp at hu; subst hu; rfl
  case n3 => unfold maxLen; omega
  case n4 => omega
  case n5 => simp; omega
  intro v2 w2 own2 g2 _
  obtain ⟨g', cap', rfl⟩ := ownsRow_pos (by omega) own2
  have hs2 := g2.size
  have nb : ∀ b, b < e.B → some b ≠ v.ownBlock := fun b hb h => by have := OG.out b h.symm; omega
  have bp2 : Blk w2 e.Bp 35 #[v] := (BP1.out.alloc _).grown g2 (nb _ lp)
  have BC2 : Hid (Blk w2 e.Bc 35 #[vc]) := (BC1.out.alloc _).grown g2 (nb _ lc)
  have KB2 : Hid (KB e.B e.X e.W0 w2) := (KB1.out.alloc (by omega) _).grown (by omega) g2 (fun g h => .inr (OG.out g h))
  have IM2 : Hid (IM w2 e.bS (putE E c 1)) := (IM1.out.alloc _).kept g2 (nb _ lS)
  obtain ⟨c2, f2⟩ := bp2.one
  have gB : e.B ≤ g' := (own2.lt g' rfl).1
  have gs3 : w2.grownBy (w2.setCell ⟨e.Bp, 0, none⟩ (.slice (some ⟨g', 0, none⟩) (p.length + 1) cap')) (some e.Bp) := only_setCell (only_refl w2 (some e.Bp)) (.inl rfl) _
  obtain ⟨w3, hw3⟩ : ∃ w3 : World, w2.setCell ⟨e.Bp, 0, none⟩ (.slice (some ⟨g', 0, none⟩) (p.length + 1) cap') = w3 := ⟨_, rfl⟩
  rw [hw3] at gs3
  have VW3 : Hid (VW e U (putE E c 1) (p ++ [c]) w3) := by
    refine ⟨?_, IM2.out.kept gs3 (by simp; omega), hk1.out, ⟨.slice (some ⟨g', 0, none⟩) (p.length + 1) cap', ?_, ?_⟩, vc, BC2.out.grown gs3 (by simp; omega)⟩
    · exact KB2.out.grown (by omega) gs3 (fun g h => by injection h with h; subst h; exact .inl (by simp [Env.X]))
    · rw [← hw3]; exact bp2.set0 _
    · rw [List.length_append, List.flatMap_append]
      exact own_keptJ own2 gs3 (fun q hq => by have := (own2.lt q hq).1; omega)
  have KB3 := Lib.hid VW3.out.1
  obtain ⟨a, cap, hMc, hnl, hrec, hax⟩ := he.rows c wfc
  have hom := KB3.out.omap he.map_ (by have := he.map_.lt; omega) he.mX
  have r3 := hom.look (t := 96) (int_keyed Try.underlying3) Try.underlying96 (zeroInts w3) (keyOf_int_mk Try.underlying3 wfc)
  rw [hMc] at r3
  have cn3 := (KB3.out.blk he.nb (by have := he.nb.lt; omega) he.nX).one.1
  have np : e.Bn ≠ e.Bp := fun h => he.nX (by rw [h]; simp [Env.X])
  have cn2 : w2.cell? ⟨e.Bn, 0, none⟩ = some (.map (some e.bN)) := (KB2.out.blk he.nb (by have := he.nb.lt; omega) he.nX).one.1
  rw [← hw3] at r3
  have HW3 := Lib.hid hw3
  have HREC := Lib.hid hrec
  have HAX := Lib.hid hax
  clear own1 own2 g2 gs3 hw3 hom hMc hrec hax bp2 KB2 IM2 BC2 KB1 IM1 BP1 BC1 nb OG OWN
  go_wp2_with fail
  rw [HW3.out]
  clear r3 cn3 cn2 c2 f2 cp1 HW3
  generalize hE1 : putE E c 1 = E1 at *
  generalize hp1 : p ++ [c] = p1 at *
  have hp1l : p1.length = p.length + 1 := by rw [← hp1]; simp
  have HP1 : Hid (p1.dropLast = p) := by rw [Hid, ← hp1]; simp
  have HLK : Hid (∀ x ∈ e.nx c, Link e.nx p1 x) := fun x hx => by rw [← hp1]; exact link_push hx
  have HP1L := Lib.hid hp1l
  clear hE1 hp1 hu1 hp1l
  go_loopw [33] (fun i wr => RelV e U (vis e.nx (k + 1)) c E1 p1 i wr) (fun i _ => (e.nx c).length - (RowKit.intOf i).toNat)
  case atStart => exact ⟨0, Nat.zero_le _, rfl, rfl, VW3.out⟩
  case round =>
    clear VW3 KB3
    obtain ⟨j, hj, rfl, hnf, vw⟩ := hrel
    have SPJ := Lib.hid (SP.out j)
    have kbr := vw.1
    by_cases hjr : j < (e.nx c).length
    · obtain ⟨b1, o1, ha1, hb1, hm1, e1⟩ := int_at (kbr.isRec HREC.out HB.out HAX.out) j hjr
      have TS := Lib.hid (take_snocG 0 (e.nx c) j hjr)
      have TD : Hid ((e.nx c).take (j + 1) ++ (e.nx c).drop (j + 1) = e.nx c) := List.take_append_drop _ _
      have cv := (kbr.blk he.vb (by have := he.vb.lt; omega) he.vX).one.1
      have HC := Lib.hid (HH.out (visL (vis e.nx (k + 1)) ((e.nx c).take j) E1 p1).2.1 p1 ((e.nx c).getD j 0) wr (UC.out c hc _ hm1) (Nat.le_trans (unv_mono (SPJ.out.mono0 hnf)) hu2) (SPJ.out.inv hnf) (HLK.out _ hm1) vw)
      have SN := Lib.hid (visL_snoc (f := vis e.nx (k + 1)) (l := (e.nx c).take j) (x := (e.nx c).getD j 0) hnf)
      rw [SPJ.out.path hnf, ← TS.out] at SN
      generalize (e.nx c).getD j 0 = x at *
      subst ha1
      unfold Env.clo ptr at cv
      unfold ptr at HC
      have HNF := Lib.hid hnf
      clear vw kbr hm1 TS hnf
      go_wp2_with fail
      refine HC.out.mono ?_
      rintro en w4 ⟨rfl, ⟨hr, hkb, hvc⟩ | ⟨hr, hvw⟩⟩
      · rw [hr]
        have F : Hid (VPost e U (vis e.nx (k + 2) E p c) (.returned (.bool true)) w4) := by
          rw [if_pos hr] at SN
          have hfd : (visL (vis e.nx (k + 1)) ((e.nx c).take (j + 1)) E1 p1).1 = true := by rw [SN.out]; exact hr
          have := visL_found (m := (e.nx c).drop (j + 1)) hfd
          rw [TD.out, SN.out] at this
          rw [Hid, EQ.out, this, if_pos hr]
          exact ⟨by rw [hr], .inl ⟨hr, hkb, hvc⟩⟩
        clear hkb hvc hr
        go_wp2_with fail
        go_ret
        exact F.out
      · rw [hr]
        have R : Hid (RelV e U (vis e.nx (k + 1)) c E1 p1 (.int .i64 ((j + 1 : Nat) : Int)) w4) := by
          rw [if_neg (by rw [hr]; simp)] at SN
          refine ⟨j + 1, by omega, rfl, by rw [SN.out], ?_⟩
          rw [SN.out]
          have hnf2 : (visL (vis e.nx (k + 1)) ((e.nx c).take (j + 1)) E1 p1).1 = false := by rw [SN.out]
          have hp2 := (SP.out (j + 1)).path hnf2
          rw [SN.out] at hp2
          simp only at hp2 ⊢
          rw [hp2] at hvw
          exact hvw
        clear hvw hr
        go_wp2_with fail
        exact ⟨by simpa using R.out, by simp [RowKit.intOf]; omega⟩
    · obtain rfl : j = (e.nx c).length := by omega
      rw [List.take_length] at hnf vw SPJ
      have NF : Hid (vis e.nx (k + 2) E p c = (false, putE (visL (vis e.nx (k + 1)) (e.nx c) E1 p1).2.1 c 2, p, [])) := by
        rw [Hid, EQ.out, if_neg (by rw [hnf]; simp), SPJ.out.path hnf, HP1.out]
      have hI2 := SPJ.out.inv hnf
      generalize (visL (vis e.nx (k + 1)) (e.nx c) E1 p1).2.1 = E2 at *
      obtain ⟨kb, im, hk, ⟨v5, bp, own⟩, vc5, bc⟩ := vw
      have kbs5 := kb.size
      have hel2 := ens_len im.nodup hk
      have hk2 := Lib.hid (keys_put (v := 2) hk hc)
      have hp1a : p1.length ≤ p.length + 1 := by have := HP1L.out; omega
      have hp1b : p.length + 1 ≤ p1.length := by have := HP1L.out; omega
      have hpl2 := path_len hI2 hk
      obtain ⟨g5, cap5, rfl, hnc⟩ : ∃ g cap, v5 = .slice (some ⟨g, 0, none⟩) p1.length cap ∧ p1.length ≤ cap := by
        rcases own.2 with ⟨_, h0⟩ | ⟨g, cap, cur, rfl, _, _, r, _⟩
        · omega
        · exact ⟨g, cap, rfl, r⟩
      have OC := Lib.hid (own_cut own (p1.length - 1) (by omega))
      have TK : Hid (p1.take (p1.length - 1) = p) := by rw [Hid, ← List.dropLast_eq_take]; exact HP1.out
      have gB5 : e.B ≤ g5 := (own.lt g5 rfl).1
      obtain ⟨c5, f5⟩ := bp.one
      have cst5 := (kb.blk he.stb (by have := he.stb.lt; omega) he.stX).one.1
      have stp : e.Bst ≠ e.Bp := fun h => he.stX (by rw [h]; simp [Env.X])
      have gs6 : wr.grownBy (wr.setCell ⟨e.Bp, 0, none⟩ (.slice (some ⟨g5, 0, none⟩) (p1.length - 1) cap5)) (some e.Bp) := only_setCell (only_refl wr (some e.Bp)) (.inl rfl) _
      have im6 : IM (wr.setCell ⟨e.Bp, 0, none⟩ (.slice (some ⟨g5, 0, none⟩) (p1.length - 1) cap5)) e.bS E2 := im.kept gs6 (by simp; omega)
      have KB6 : Hid (KB e.B e.X e.W0 (wr.setCell ⟨e.Bp, 0, none⟩ (.slice (some ⟨g5, 0, none⟩) (p1.length - 1) cap5))) := kb.grown (by omega) gs6 (fun g h => by injection h with h; subst h; exact .inl (by simp [Env.X]))
      have BP6 : Hid (Blk (wr.setCell ⟨e.Bp, 0, none⟩ (.slice (some ⟨g5, 0, none⟩) (p1.length - 1) cap5)) e.Bp 35 #[.slice (some ⟨g5, 0, none⟩) (p1.length - 1) cap5]) := bp.set0 _
      have BC6 : Hid (Blk (wr.setCell ⟨e.Bp, 0, none⟩ (.slice (some ⟨g5, 0, none⟩) (p1.length - 1) cap5)) e.Bc 35 #[vc5]) := bc.grown gs6 (by simp; omega)
      have OW6 : Hid ((wr.setCell ⟨e.Bp, 0, none⟩ (.slice (some ⟨g5, 0, none⟩) (p1.length - 1) cap5)).ownsRow e.B 3 1 (.slice (some ⟨g5, 0, none⟩) (p1.length - 1) cap5) (p1.length - 1) ((p1.take (p1.length - 1)).flatMap cI)) := own_keptJ OC.out gs6 (fun q hq => by have := (OC.out.lt q hq).1; omega)
      have q1 : (0 : Int) ≤ (p1.length : Int) - 1 := by omega
      have q2 : ((p1.length : Int) - 1).toNat = p1.length - 1 := by omega
      have q3 : (p1.length : Int) - 1 ≤ (cap5 : Int) := by omega
      clear kb bp own bc gs6 hk hnf SPJ SP HH hI2
      go_wp2_with (at_mapUpdate; refine wpList_putI _ rfl _ _ _ 30 rfl 3 3 Try.underlying3 Try.underlying3 Try.underlying30 e.bS E2 rfl im6 ?c1 c 2 rfl rfl wfc (by decide) ?_)
      case c1 => unfold maxLen; omega
      intro w7 im7 g7
      have F : Hid (VPost e U (vis e.nx (k + 2) E p c) (.returned (.bool false)) w7) := by
        rw [Hid, NF.out]
        refine ⟨rfl, .inr ⟨rfl, ?_, im7, hk2.out, ⟨_, BP6.out.grown g7 (by simp; omega), ?_⟩, vc5, BC6.out.grown g7 (by simp; omega)⟩⟩
        · exact KB6.out.grown (by omega) g7 (fun g h => by injection h with h; subst h; exact .inl (by simp [Env.X]))
        · have h1 := own_keptJ OW6.out g7 (fun q hq => by have := (OW6.out.lt q hq).1; omega)
          rw [TK.out] at h1
          have e2 : p1.length - 1 = p.length := by omega
          rw [e2] at h1 ⊢
          exact h1
      clear im7 g7 im6
      go_wp2_with fail
      go_ret
      exact F.out
/-- The search from a node. -/
theorem visit_any (hUw : ∀ c ∈ U, (Lit.int .i64 c).wf = true) (hUl : U.length ≤ 100000) (hUc : ∀ c ∈ U, ∀ x ∈ e.nx c, x ∈ U) (he : e.Ok) :
    ∀ (k : Nat) (E : Ens) (p : List Int) (c : Int) (w : World), c ∈ U → unv U E ≤ k → DInv e.nx E p → Link e.nx p c → VW e U E p w →
      Calls Try.prog 50 #[.int .i64 c, ptr e.Bst, ptr e.Bp, ptr e.Bc, ptr e.Bn, ptr e.Bv] w (VPost e U (vis e.nx (k + 1) E p c)) := by
  have first : ∀ (k : Nat) (E : Ens) (p : List Int) (c : Int) (w : World), c ∈ U → DInv e.nx E p → VW e U E p w → stE E c ≠ 0 →
      Calls Try.prog 50 #[.int .i64 c, ptr e.Bst, ptr e.Bp, ptr e.Bc, ptr e.Bn, ptr e.Bv] w (VPost e U (vis e.nx (k + 1) E p c)) := by
    intro k E p c w hc hI hW h
    rcases hI.vals c with h0 | h1 | h2
    · exact absurd h0 h
    · have := visit_open e U hUw hUl E p c w hc hI hW h1 he
      rw [vis, if_pos h1]; exact this
    · have := visit_closed e U hUw E p c w hc hW h2 he
      rw [vis, if_neg (by rw [h2]; decide), if_pos h2]; exact this
  intro k
  induction k with
  | zero =>
    intro E p c w hc hk hI hL hW
    refine first 0 E p c w hc hI hW fun h0 => ?_
    have := unv_put hc h0 (v := 1) (by decide)
    omega
  | succ k ih =>
    intro E p c w hc hk hI hL hW
    by_cases h0 : stE E c = 0
    · exact visit_new e U hUw hUl hUc he k ih E p c w hc hk hI hL hW h0
    · exact first (k + 1) E p c w hc hI hW h0
end
end Go.Proofs.Ytljojgpjgjfddaa
