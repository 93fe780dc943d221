/- What LocalBack needs in plain Lean (joining the parts of a whole), and slices.Clone at dependencies. -/
import Derived.Test.YtljojgpjgjfddaaLStb
import Derived.Test.YtljojgpjgjfddaaLRow
import Derived.Test.YtljojgpjgjfddaaLAgrJoin
namespace Go.Proofs.Ytljojgpjgjfddaa
open Go.RowKit Go.Maps
set_option linter.unusedVariables false
set_option linter.unusedSimpArgs false

section
variable {p : Pl} {ds : List Dp} {r : List Int}
theorem back_nodes (h : splitErr p ds r = 0) : ∀ d ∈ ds, 0 ≤ kN d ∧ kN d < p.ns.length := fun d hd => by
  have h1 := (split0_inv h).2.2 d hd
  obtain ⟨f, t, n⟩ := d
  exact (fits_inv h1).1
theorem back_joinD : joinD (splitL p ds r) = byKey kN p.ns.length ds := by
  unfold joinD splitL byKey
  rw [List.flatMap_map]
  rfl
theorem back_want (h : splitErr p ds r = 0) {S : List Dp} (h1 : SrtK kN S) (h2 : Stb kN ds S) : S = joinD (splitL p ds r) := by
  rw [back_joinD]
  refine Stb.uniq h1 (byKey_srt _ _).1 ?_
  exact h2.symm.trans (byKey_stb (back_nodes h))
theorem split_nodup : ∀ x ∈ splitL p ds r, (keysE x.ranks).Nodup := fun x hx => by
  unfold splitL at hx
  obtain ⟨i, _, rfl⟩ := List.mem_map.1 hx
  show (keysE (ranksOf p.cs r i)).Nodup
  rw [keysE_ranksOf]
  exact (chTo_sorted p.cs i _).imp fun h e => by omega
theorem back_rank (h : splitErr p ds r = 0) {c : Nat} (hc : c < 2 * p.cs.length) : joinRk (splitL p ds r) (c : Int) = r.getD c 0 := by
  obtain ⟨hv, _, _⟩ := split0_inv h
  obtain ⟨ns, cs⟩ := p
  simp only at hc
  obtain ⟨⟨e1, e2⟩, _⟩ := ends_node hv c hc
  obtain ⟨u, hu⟩ : ∃ u : Nat, (chEnds cs (c : Int)).1 = u := ⟨(chEnds cs (c : Int)).1.toNat, by omega⟩
  have hun : u < ns.length := by omega
  have hm := (ends_at (cs := cs) (c := (c : Int)) (by omega) (by omega)).1
  rw [hu] at hm
  have hx : splitPt ⟨ns, cs⟩ ds r u ∈ splitL ⟨ns, cs⟩ ds r := List.mem_map.2 ⟨u, List.mem_range.2 hun, rfl⟩
  have hl : lookE (splitPt ⟨ns, cs⟩ ds r u).ranks (c : Int) = some (r.getD c 0) := by
    show lookE (ranksOf cs r u) (c : Int) = _
    rw [lookE_ranksOf, if_pos hm, Int.toNat_natCast]
  have := join_rank (agree_split ⟨ns, cs⟩ ds r hv) split_nodup hx hl
  rw [arr_split] at this
  exact this
end
theorem ownsRow_posB {w : World} {base e m n : Nat} {v : Value} {xs : List Value} (hn : 0 < n) (h : w.ownsRow base e m v n xs) : ∃ g cap, v = .slice (some ⟨g, 0, none⟩) n cap := by
  rcases h.2 with ⟨e1, h2⟩ | ⟨g, cap, cur, e1, _⟩
  · omega
  · exact ⟨g, cap, e1⟩
theorem infoDepB : (Try.prog.info? 49).map (fun i => (i.zero, i.size, i.bytes)) = some (some (.agg #[.int .i64 0, .int .i64 0, .int .i64 0]), 3, 24) := by kernel_rfl
/-- The call returns a row of its own that reads as l, or nil. -/
def DOwn (l : List Dp) (w : World) (e : Ending) (w' : World) : Prop := ∃ v, e = .returned v ∧ w'.ownsRow w.heap.size 49 3 v l.length (l.flatMap cD) ∧ Below w.heap.size w w'
set_option maxRecDepth 100000 in
set_option maxHeartbeats 1000000 in
theorem cloneDO_any (a : Option Addr) (c : Nat) (l : List Dp) (w : World) (hl : l.length ≤ 1000000) (h : IsRec 3 cD d0 w a l.length l) :
    Calls Try.prog 20 #[.slice a l.length c] w (DOwn l w) := by
  have hnil : ∀ (w : World) (a : Option Addr) (n c n' c' : Nat), (binOp .eql 29 (.slice a n c) (.slice none n' c')).run Try.prog w = .ok (.bool a.isNone) w := fun w a n c n' c' => Lib.run_eql_slice_nil w 29 49 a n c n' c' Try.underlying29
  have RA := Lib.hid ((reads_of_rec cD_len3 h).alloc (Nat.le_refl _) (.cells #[] 49))
  have H0 : Hid (a = none → DOwn l w (.returned (.slice none 0 0)) w) := fun e => by
    have hz : l.length = 0 := by
      rcases Nat.eq_zero_or_pos l.length with h0 | h0
      · exact h0
      · obtain ⟨b, off, ha, _⟩ := h.2 h0; rw [e] at ha; cases ha
    have : l = [] := List.eq_nil_of_length_eq_zero hz
    subst this
    exact ⟨_, rfl, World.ownsRow_nil _ _ _ _, Below.refl _ _⟩
  have fo := Lib.hid (cD_oneJ l)
  clear h
  obtain ⟨i0, hi0, hz0, hz1, hz2⟩ := info_parts infoDepB
  cases a with
  | none =>
    have F := Lib.hid (H0.out rfl)
    go_enter Try.func20, Try.ntmps20
    go_wp2_with fail
    go_ret
    exact F.out
  | some ad =>
    clear H0
    go_enter Try.func20, Try.ntmps20
    go_wp2_with (at_builtin; refine wpList_append_any _ rfl (.tmp 5) (.tmp 6) 29 rfl w.heap.size 49 i0 _ 3 24 Try.underlying29 hi0 hz0 hz1 hz2 rfl (by decide) _ 0 [] rfl (own_empty w 49 3) w.heap.size _ l.length c (l.flatMap cD) rfl RA.out fo.out ?c3 ?c4 ?c5 ?_)
    case c3 => unfold maxLen; omega
    case c4 => omega
    case c5 => simp
    intro v1 w1 own1 gr1 _
    try simp only [Nat.zero_add, List.nil_append] at own1
    have bel : Hid (Below w.heap.size w w1) := ((Below.refl _ _).alloc (Nat.le_refl _) _).grown gr1 (by simp) (by intro g e; simp [Value.ownBlock] at e; omega)
    have F : Hid (DOwn l w (.returned v1) w1) := ⟨v1, rfl, own1, bel.out⟩
    clear own1 gr1
    go_wp2_with fail
    go_ret
    exact F.out
end Go.Proofs.Ytljojgpjgjfddaa
