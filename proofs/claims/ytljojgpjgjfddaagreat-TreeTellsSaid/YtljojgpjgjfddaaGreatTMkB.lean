/- Several texts in one: TMk, TMkB. -/
import Derived.Test.YtljojgpjgjfddaaGreatTMake
import Derived.Test.YtljojgpjgjfddaaGreatTMakeP
import Derived.Test.YtljojgpjgjfddaaGreatTPar
import Derived.Test.YtljojgpjgjfddaaGreatTVal
import Derived.Test.YtljojgpjgjfddaaGreatLaid
import Derived.Deep.Cut
import Derived.Deep.CutRange
import Derived.Laws.EntriesVeiled

/- The contract of tree.Make. -/
namespace Go.Proofs.YtljojgpjgjfddaaGreat
open Go.RowKit Go.Maps Go.Sort Go.Shelf
set_option linter.unusedVariables false
set_option linter.unusedSimpArgs false

theorem sortsAB (m : Nat) : AnyZI.SortsIn Tryz.prog Tryz.sortedA_ren Fence.wide m :=
  ⟨fun blk off cap ss W hH hblk hsz => callsIn_wide.2 (AnyM.slices_Sort_int Tryz.sortA blk off cap ss W hH hblk hsz),
   fun p cap W => callsIn_wide.2 (AnyM.slices_Sort_int_none Tryz.sortA p cap W)⟩
theorem keysIB_any (m : Option Nat) (w : World) :
    Calls Tryz.prog 73 #[.map m] w fun e w' => e = .returned (.func (.func 116) #[] #[.pointer (some ⟨w.heap.size, 0, none⟩)]) ∧ w.alloc (.cells #[.map m] 127) = w' :=
  (callsIn_wide (n := 5)).1 ((AnyZI.keys_in Tryz.keysIB Fence.wide 5 trivial rfl m w).mono fun e w' h => ⟨h.1, h.2.symm⟩)
theorem setM_some (ms : List Int) (l : Lit) : (setM (intLits ms ms.length) l).isSome = true ↔ ∃ y ∈ ms, l = .int .i64 y := by
  unfold setM intLits
  rw [List.take_length]
  constructor
  · intro h
    split at h
    · rename_i h2
      rw [List.any_map, List.any_eq_true] at h2
      obtain ⟨y, hy, e⟩ := h2
      exact ⟨y, hy, WideAt.sameKey_eq e⟩
    · cases h
  · rintro ⟨y, hy, rfl⟩
    rw [if_pos]
    · rfl
    · rw [List.any_map, List.any_eq_true]; exact ⟨y, hy, by simp [Lit.sameKey]⟩
def delM (ms : List Int) : List Int := ms.mergeSort leI
theorem sortedIB_any (B b n : Nat) (ms : List Int) (hnd : ms.Nodup) (w : World) (hB : B < w.heap.size) (hc : w.cell? ⟨B, 0, none⟩ = some (.map (some b))) (hg : OMap w Tryz.prog 3 b n (setM (intLits ms ms.length))) (hl : ms.length ≤ 1000000) :
    Calls Tryz.prog 72 #[.func (.func 116) #[] #[.pointer (some ⟨B, 0, none⟩)]] w (IntsPost (delM ms) w) := by
  refine (callsIn_wide (n := 5)).1 ?_
  obtain ⟨D, hown, hD⟩ := hg
  obtain ⟨es, hDe, hpw, hkl⟩ := hown.entries (int_keyed Tryz.underlying3)
  obtain ⟨es', hDe', hko⟩ := hown.keysOf
  obtain rfl : es = es' := by rw [hDe] at hDe'; simpa using hDe'
  have hints : ∀ p ∈ es, ∃ x, p.1 = .int .i64 x := fun p hp => by obtain ⟨v, hv⟩ := hko p hp; obtain ⟨x, _, hx, _⟩ := Maps.keyOf_i64 Tryz.underlying3 hv; exact ⟨x, hx⟩
  have hperm : ms.Perm (intKeys D) := by
    subst hDe
    refine perm_intKeys hpw hints hnd fun x => ?_
    rw [(hD _).1, setM_some]
    constructor
    · intro h; exact ⟨x, h, rfl⟩
    · rintro ⟨y, hy, e⟩; injection e with _ e; rw [e]; exact hy
  have hsz : Maps.size D ≤ ms.length := by
    have h1 := hperm.length_eq
    have h2 : (intKeys D).length = Maps.size D := by subst hDe; rw [size_eq]; simp [intKeys]
    omega
  have hseq : SeqGives Fence.wide 2 Tryz.prog 116 #[.pointer (some ⟨B, 0, none⟩)] encZ (fun ss => ss.Perm (intKeys D)) (Maps.size D) w :=
    AnyZI.keys_gives (ρ := Tryz.keysIB_ren) { Tryz.keysIB with } Fence.wide _ trivial rfl (by omega) B b _ D w hB hc hown
  have cS := AnyZI.sorted_in Tryz.sortedA Fence.wide 5 trivial trivial trivial trivial rfl (by omega) (sortsAB _) (enters_of Tryz.func115 (by kernel_rfl) rfl) 116 #[.pointer (some ⟨B, 0, none⟩)] trivial (enters_of Tryz.func116 (by kernel_rfl) rfl) _ _ (by unfold maxLen; omega) (by omega) _ hseq
  refine cS.mono ?_
  rintro e w' ⟨v, ss, rfl, hS, hrow, hnil, hb⟩
  have e1 : ss.mergeSort leI = delM ms := mergeSort_of_perm_i (hS.trans hperm.symm)
  refine ⟨v, rfl, ?_, hb⟩
  have e2 : ss.length = (delM ms).length := by rw [← e1, List.length_mergeSort]
  rw [← e2, cI_map, ← e1]
  exact hrow
end Go.Proofs.YtljojgpjgjfddaaGreat

/- The contract of tree.Make: the walk. -/
namespace Go.Proofs.YtljojgpjgjfddaaGreat
open Go.RowKit Go.Maps Go.Sort Go.Shelf
set_option linter.unusedVariables false
set_option linter.unusedSimpArgs false

def mkT (ns : List Nd) (cs : List Cb) (lv ms : List Int) (k : Nat) : Tr := ⟨k, (List.range ns.length).map (makeOut ns cs lv ms k), delM ms⟩
/-- The blocks from B on are as they were. -/
def AgreeF (B : Nat) (w w' : World) : Prop := w.heap.size ≤ w'.heap.size ∧ ∀ i, B ≤ i → i < w.heap.size → w'.heap[i]? = w.heap[i]?
theorem AgreeF.refl (B : Nat) (w : World) : AgreeF B w w := ⟨Nat.le_refl _, fun _ _ _ => rfl⟩
theorem AgreeF.alloc (B : Nat) (w : World) (o : Obj) : AgreeF B w (w.alloc o) := ⟨by simp, fun i _ hi => Below.heap_alloc w o i hi⟩
theorem AgreeF.setCell {B : Nat} (w : World) {p : Addr} (hp : p.block < B) (v : Value) : AgreeF B w (w.setCell p v) := ⟨by simp [World.setCell], fun i hi _ => Below.heap_setCell w p v i (by omega)⟩
theorem AgreeF.trans {B : Nat} {w w' w'' : World} (h : AgreeF B w w') (h2 : AgreeF B w' w'') : AgreeF B w w'' := ⟨Nat.le_trans h.1 h2.1, fun i hi hl => (h2.2 i hi (Nat.lt_of_lt_of_le hl h.1)).trans (h.2 i hi hl)⟩
theorem AgreeF.set3 {B g : Nat} (w : World) (hg : g < B) (v0 v1 v2 : Value) : AgreeF B w (((w.setCell ⟨g, 0, none⟩ v0).setCell ⟨g, 1, none⟩ v1).setCell ⟨g, 2, none⟩ v2) :=
  ((AgreeF.setCell w (p := ⟨g, 0, none⟩) hg v0).trans (AgreeF.setCell _ (p := ⟨g, 1, none⟩) hg v1)).trans (AgreeF.setCell _ (p := ⟨g, 2, none⟩) hg v2)
theorem IsRec.agree {α : Type} {m : Nat} {c : α → List Value} {d : α} {w w'' : World} {B : Nat} {a : Option Addr} {len : Nat} {xs : List α} (h : IsRec m c d w a len xs) (hb : ∀ x, a = some x → B ≤ x.block) (ag : AgreeF B w w'') : IsRec m c d w'' a len xs := by
  refine ⟨h.1, fun h0 => ?_⟩
  obtain ⟨b, off, e, hlt, hc⟩ := h.2 h0
  refine ⟨b, off, e, Nat.lt_of_lt_of_le hlt ag.1, fun i j hi hj => ?_⟩
  rw [World.cell?_of_block (ag.2 b (hb _ e) hlt)]; exact hc i j hi hj
def MkPost (ns : List Nd) (cs : List Cb) (lv ms : List Int) (s : Int) (w : World) (e : Ending) (w' : World) : Prop :=
  Below w.heap.size w w' ∧ ((tErr ⟨ns, cs⟩ lv ms s ≠ 0 ∧ e = .returned (.tuple #[.agg #[.int .i64 0, .slice none 0 0, .slice none 0 0], .int .i64 (tErr ⟨ns, cs⟩ lv ms s)])) ∨
    (tErr ⟨ns, cs⟩ lv ms s = 0 ∧ ∃ k : Nat, s = k ∧ MOk ns cs lv ms k ∧ ∃ aO aD cO cD, e = .returned (.tuple #[trV (mkT ns cs lv ms k) aO aD cO cD, .int .i64 0]) ∧ ∀ w'', AgreeF w.heap.size w' w'' → IsTree w'' aO aD (mkT ns cs lv ms k)))
def RelMk (ms : List Int) (w2 : World) (i : Value) (wr : World) : Prop :=
  ∃ k : Nat, k ≤ ms.length ∧ i = .int .i64 k ∧ OMap wr Tryz.prog 3 w2.heap.size k (setM (intLits ms k)) ∧ Blk wr (w2.heap.size + 1) 127 #[.map (some w2.heap.size)] ∧ Below w2.heap.size w2 wr
def R11 (n k : Nat) (ms : List Int) (w5 : World) (s15 : Value) (wx : World) : Prop :=
  ∃ bO bX aD cD, s15 = .pointer (some ⟨bX, 0, none⟩) ∧ Below w5.heap.size w5 wx ∧ Blk wx bX 56 #[.int .i64 (k : Int), .slice (some ⟨bO, 0, none⟩) n n, .slice aD (delM ms).length cD] ∧ RBlk wx bO 28 1 n (fun _ => [.slice none 0 0]) ∧
    IsRec 1 cI 0 wx aD (delM ms).length (delM ms) ∧ bO ≠ bX ∧ w5.heap.size ≤ bO ∧ w5.heap.size ≤ bX ∧ ∀ a, aD = some a → a.block ≠ bO ∧ w5.heap.size ≤ a.block
theorem r11_mk {n k : Nat} {ms : List Int} {w5 wx : World} {bO bX : Nat} {aD : Option Addr} {cD : Nat} (hX : Blk wx bX 56 #[.int .i64 (k : Int), .slice (some ⟨bO, 0, none⟩) n n, .slice aD (delM ms).length cD])
    (hB : Below w5.heap.size w5 wx) (hO : RBlk wx bO 28 1 n (fun _ => [.slice none 0 0])) (hR : IsRec 1 cI 0 wx aD (delM ms).length (delM ms)) (hN : bO ≠ bX) (hL : w5.heap.size ≤ bO) (hM : w5.heap.size ≤ bX) (hA : ∀ a, aD = some a → a.block ≠ bO ∧ w5.heap.size ≤ a.block) : R11 n k ms w5 (.pointer (some ⟨bX, 0, none⟩)) wx :=
  ⟨bO, bX, aD, cD, rfl, hB, hX, hO, hR, hN, hL, hM, hA⟩
theorem blkA0 (w : World) (t : TypeId) (cs : Array Value) : Blk (w.alloc (.cells cs t)) w.heap.size t cs := Blk.new _ _ _
theorem blkA1 (w : World) (o : Obj) (t : TypeId) (cs : Array Value) : Blk ((w.alloc o).alloc (.cells cs t)) (w.heap.size + 1) t cs := by have := Blk.new (w.alloc o) t cs; rwa [World.size_alloc] at this
theorem blkA2 (w : World) (o o' : Obj) (t : TypeId) (cs : Array Value) : Blk (((w.alloc o).alloc o').alloc (.cells cs t)) (w.heap.size + 1 + 1) t cs := by have := Blk.new ((w.alloc o).alloc o') t cs; rwa [World.size_alloc, World.size_alloc] at this
theorem below_allocS {w w' : World} (h : Below w.heap.size w w') (o : Obj) : Below w.heap.size w (w'.alloc o) := h.alloc h.size o
theorem below_drewS {w w' : World} (h : Below w.heap.size w w') : Below w.heap.size w w'.drew := h.drew
theorem below_setS {B : Nat} {a w : World} {p : Addr} {v : Value} (h : Below B a w) (hp : B ≤ p.block) : Below B a (w.setCell p v) := h.setCell hp v
theorem IsRec.farT {α : Type} {m : Nat} {c : α → List Value} {d : α} {w : World} {a : Option Addr} {len : Nat} {xs : List α} (h : IsRec m c d w a len xs) {p : Addr} (hp : ∀ x, a = some x → p.block ≠ x.block) (v : Value) : IsRec m c d (w.setCell p v) a len xs := by
  refine ⟨h.1, fun h0 => ?_⟩
  obtain ⟨b, off, e, hlt, hc⟩ := h.2 h0
  have hne := hp _ e
  refine ⟨b, off, e, by simpa [World.setCell] using hlt, fun i j hi hj => ?_⟩
  rw [World.cell?_of_block (Below.heap_setCell w p v b (Ne.symm hne))]; exact hc i j hi hj
theorem keepB {W ws : World} {g : Nat} {t : TypeId} {cs : Array Value} (h : Blk W g t cs) (hb : Below W.heap.size W ws) : Blk ws g t cs := h.below hb h.lt
theorem keepD {W ws : World} {g : Nat} {t : TypeId} {cs : Array Value} (h : Blk W g t cs) (hb : Below W.drew.heap.size W.drew ws) : Blk ws g t cs := h.drew.below hb h.lt
theorem fill3 {w : World} {g : Nat} {t : TypeId} {a0 a1 a2 : Value} (h : Blk w g t #[a0, a1, a2]) (v0 v1 v2 : Value) : Blk (((w.setCell ⟨g, 0, none⟩ v0).setCell ⟨g, 1, none⟩ v1).setCell ⟨g, 2, none⟩ v2) g t #[v0, v1, v2] := ((h.set_ 0 v0).set_ 1 v1).set_ 2 v2
theorem far3 {w : World} {g g' : Nat} {t : TypeId} {cs : Array Value} (h : Blk w g' t cs) (hne : g' ≠ g) (v0 v1 v2 : Value) : Blk (((w.setCell ⟨g, 0, none⟩ v0).setCell ⟨g, 1, none⟩ v1).setCell ⟨g, 2, none⟩ v2) g' t cs := ((h.far hne v0).far hne v1).far hne v2
theorem made3 (w : World) {g : Nat} (t : TypeId) (cs : Array Value) (v0 v1 v2 : Value) : Blk ((((w.setCell ⟨g, 0, none⟩ v0).setCell ⟨g, 1, none⟩ v1).setCell ⟨g, 2, none⟩ v2).alloc (.cells cs t)) w.heap.size t cs := by
  have := Blk.new (((w.setCell ⟨g, 0, none⟩ v0).setCell ⟨g, 1, none⟩ v1).setCell ⟨g, 2, none⟩ v2) t cs
  simpa [World.setCell] using this
theorem rec3 {α : Type} {m : Nat} {c : α → List Value} {d : α} {w : World} {a : Option Addr} {len : Nat} {xs : List α} (h : IsRec m c d w a len xs) {g : Nat} (hp : ∀ x, a = some x → g ≠ x.block) (v0 v1 v2 : Value) : IsRec m c d (((w.setCell ⟨g, 0, none⟩ v0).setCell ⟨g, 1, none⟩ v1).setCell ⟨g, 2, none⟩ v2) a len xs := ((h.farT (p := ⟨g, 0, none⟩) hp v0).farT (p := ⟨g, 1, none⟩) hp v1).farT (p := ⟨g, 2, none⟩) hp v2
theorem RBlk.ofMade {w : World} {g : Nat} {t : TypeId} {n : Nat} {z : Value} (h : Blk w g t (madeCells #[z] n)) : RBlk w g t 1 n (fun _ => [z]) := by
  obtain ⟨arr, h1, h2, h3⟩ := RBlk.made w (m := 1) (n := n) (t := t) (z := #[z]) rfl (by decide)
  have e := (Blk.new w t (madeCells #[z] (n * 1))).symm.trans h1
  injection e with e
  injection e with e
  subst e
  rw [Nat.mul_one] at h2 h3
  exact ⟨_, h, by omega, fun i j hi hj => by have := h3 i j hi hj; simpa using this⟩
theorem infoInts : (Tryz.prog.info? 28).map (fun i => (i.zero, i.size, i.bytes)) = some (some (.slice none 0 0), 1, 24) := by kernel_rfl
set_option maxRecDepth 100000 in
set_option maxHeartbeats 4000000 in
theorem tmake_any (ns : List Nd) (cs : List Cb) (lv ms : List Int) (s : Int) (An Ac Al Am : Option Addr) (cn cc cl cm : Nat) (w : World) (hl : ns.length ≤ 1000000) (hl2 : cs.length ≤ 1000000) (hwf : WfP ⟨ns, cs⟩) (hlv : lv.length ≤ 1000000) (hwl : WfI lv) (hms : ms.length ≤ 1000000) (hwm : WfI ms)
    (h : IsPlan w An Ac ⟨ns, cs⟩) (h2 : IsRec 1 cI 0 w Al lv.length lv) (h3 : IsRec 1 cI 0 w Am ms.length ms) :
    Calls Tryz.prog 26 #[.agg #[.slice An ns.length cn, .slice Ac cs.length cc], .agg #[.slice Al lv.length cl], .int .i64 s, .slice Am ms.length cm] w (MkPost ns cs lv ms s w) := by
  have hmm := @run_makeMap Tryz.prog
  obtain ⟨w1, hw1⟩ : ∃ w1 : World, ((w.alloc (.cells #[.slice An ns.length cn, .slice Ac cs.length cc] 25)).alloc (.cells #[.slice Al lv.length cl] 30)).alloc (.cells #[.int .i64 0, .slice none 0 0, .slice none 0 0] 56) = w1 := ⟨_, rfl⟩
  have s0 : w1.cell? ⟨w.heap.size, 0, none⟩ = some (.slice An ns.length cn) := by rw [← hw1]; simp [go_sem]
  have s1 : w1.cell? ⟨w.heap.size, 1, none⟩ = some (.slice Ac cs.length cc) := by rw [← hw1]; simp [go_sem]
  have s2 : w1.cell? ⟨w.heap.size + 1, 0, none⟩ = some (.slice Al lv.length cl) := by rw [← hw1]; simp [go_sem]
  have b8 : Blk w1 (w.heap.size + 1 + 1) 56 #[.int .i64 0, .slice none 0 0, .slice none 0 0] := by
    rw [← hw1]; have := Blk.new ((w.alloc (.cells #[.slice An ns.length cn, .slice Ac cs.length cc] 25)).alloc (.cells #[.slice Al lv.length cl] 30)) 56 #[.int .i64 0, .slice none 0 0, .slice none 0 0]; simpa using this
  have sz1 : w1.heap.size = w.heap.size + 3 := by rw [← hw1]; simp
  have BP1 : Hid (Blk w1 w.heap.size 25 #[.slice An ns.length cn, .slice Ac cs.length cc]) := by rw [Hid, ← hw1]; exact ((Blk.new w _ _).alloc _).alloc _
  have BW0 : Below w.heap.size w w1 := by rw [← hw1]; exact (((Below.refl _ _).alloc (Nat.le_refl _) _).alloc (by simp) _).alloc (by simp; omega) _
  have H1 := Lib.hid (h.below (Nat.le_refl _) BW0)
  have L1 := Lib.hid (h2.below (Nat.le_refl _) BW0)
  have M1 := Lib.hid (h3.below (Nat.le_refl _) BW0)
  have HW1 := Lib.hid hw1
  have WL := Lib.hid hwl
  have WM := Lib.hid hwm
  have HW := Lib.hid hwf
  have KC : Hid (∀ w', Below w1.heap.size w1 w' → (w'.cell? ⟨w.heap.size, 0, none⟩ = some (.slice An ns.length cn) ∧ w'.cell? ⟨w.heap.size, 1, none⟩ = some (.slice Ac cs.length cc) ∧ w'.cell? ⟨w.heap.size + 1, 0, none⟩ = some (.slice Al lv.length cl)) ∧ Blk w' (w.heap.size + 1 + 1) 56 #[.int .i64 0, .slice none 0 0, .slice none 0 0] ∧ w.heap.size + 3 ≤ w'.heap.size ∧ Below w.heap.size w w') :=
    fun w' hb => ⟨⟨(hb.cell (by show w.heap.size < _; omega)).trans s0, (hb.cell (by show w.heap.size < _; omega)).trans s1, (hb.cell (by show w.heap.size + 1 < _; omega)).trans s2⟩, b8.below hb (by omega), by have := hb.size; omega, BW0.trans (hb.mono (by omega))⟩
  have TC := Lib.hid (tcheck_any ns cs lv ms s An Ac Al Am cn cc cl cm w1 hl hl2 hwf hlv hwl hms hwm H1.out L1.out M1.out)
  clear h h2 h3 hw1 hwf BW0 hwl hwm b8
  by_cases he : tErr ⟨ns, cs⟩ lv ms s = 0
  · obtain ⟨k, rfl, mok⟩ := mok_of he
    have MK := Lib.hid mok
    rw [he] at TC
    have HE := Lib.hid he
    obtain ⟨n16, c32⟩ := valid_sizes mok.T.hv
    clear he mok
    go_enter Tryz.func26, Tryz.ntmps26
    go_wp2_with fail
    rw [HW1.out]
    refine TC.out.mono ?_
    rintro e w2 ⟨rfl, bel2⟩
    have B2 := Lib.hid bel2
    obtain ⟨⟨u0, u1, u2⟩, u8, sz2, bw2⟩ := KC.out w2 bel2
    clear s0 s1 s2 bel2 u8 bw2
    go_wp2_with fail
    go_loopw [29] (fun i wr => RelMk ms w2 i wr) (fun i _ => ms.length - (RowKit.intOf i).toNat)
    case atStart =>
      refine ⟨0, Nat.zero_le _, rfl, (OMap.made _ _ _).alloc _, ?_, ((Below.refl _ _).alloc (Nat.le_refl _) _).alloc (by simp) _⟩
      have := Blk.new (w2.alloc (.map #[] 0)) 127 #[.map (some w2.heap.size)]
      simpa using this
    case round =>
      clear u0 u1 u2
      obtain ⟨i, hi, rfl, om, bm, bel⟩ := hrel
      have OM := Lib.hid om
      have BM := Lib.hid bm
      have BE := Lib.hid bel
      have bs := bel.size
      have B3 := Lib.hid (B2.out.trans (bel.mono B2.out.size))
      have lt3 := bm.lt
      obtain ⟨⟨u0, u1, u2⟩, u8, sz3, bw3⟩ := KC.out wr B3.out
      have cW := bm.one.1
      clear u8 bw3 om bm bel
      by_cases hkr : i < ms.length
      · obtain ⟨b1, o1, ha1, hb1, hm1, e1⟩ := int_at (M1.out.below (Nat.le_refl _) B3.out) i hkr
        have wfx := WM.out _ hm1
        have NS := Lib.hid (intLits_snoc ms i hkr)
        generalize ms.getD i 0 = y at *
        have HK := Lib.hid (keyOf_int_mk (a := y) Tryz.underlying3 wfx)
        subst ha1
        have ki : (i : Int) < (ms.length : Int) := by omega
        clear hm1
        go_wp2_with (at_mapUpdate; refine wpList_put _ rfl _ _ _ 127 rfl 3 4 (int_keyed Tryz.underlying3) Tryz.underlying127 w2.heap.size i _ rfl OM.out ?d1 _ _ (.int .i64 y) rfl rfl HK.out ?_)
        case d1 => unfold maxLen; omega
        intro w9 om9 gr9
        have R : RelMk ms w2 (.int .i64 ((i + 1 : Nat) : Int)) w9 := by
          refine ⟨i + 1, by omega, rfl, ?_, BM.out.grown gr9 (by intro e; injection e with e; omega), ?_⟩
          · rw [NS.out, ← setM_snoc]; exact om9
          · exact BE.out.grown gr9 (by omega) (by intro g e; injection e with e; omega)
        clear om9 gr9
        go_wp2
        exact ⟨by simpa using R, by simp [RowKit.intOf]; omega⟩
      · obtain rfl : i = ms.length := by omega
        obtain ⟨w3, rfl⟩ : ∃ w3 : World, w3 = wr := ⟨_, rfl⟩
        have PC := Lib.hid (parents_any ns cs lv An Ac Al cn cc cl w3 MK.out.T.hv MK.out.T.len (fun x hx => by
          obtain ⟨j, hj, e⟩ := List.getElem_of_mem hx
          have := MK.out.T.lt j (by have := MK.out.T.len; omega)
          have e2 : lv.getD j 0 = x := by simp [List.getD, hj, e]
          rw [e2] at this
          exact ⟨this.1, by omega⟩) (H1.out.below (Nat.le_refl _) B3.out) (L1.out.below (Nat.le_refl _) B3.out))
        go_wp2_with fail
        refine PC.out.mono ?_
        rintro e w4 ⟨gp, rfl, hgp, irp, bel4⟩
        have B4 := Lib.hid (B3.out.trans (bel4.mono B3.out.size))
        have BE4 := Lib.hid bel4
        have IRP := Lib.hid irp
        have bs4 := bel4.size
        clear u0 u1 u2
        obtain ⟨⟨u0, u1, u2⟩, u8, sz4, bw4⟩ := KC.out w4 B4.out
        clear u8 bw4 irp bel4 PC
        obtain ⟨w5, hw5⟩ : ∃ w5 : World, w4.alloc (.cells #[.slice (some ⟨gp, 0, none⟩) ns.length ns.length] 28) = w5 := ⟨_, rfl⟩
        have BE5 : Hid (Below w3.heap.size w3 w5) := by rw [Hid, ← hw5]; exact BE4.out.alloc bs4 _
        have B5 : Hid (Below w1.heap.size w1 w5) := B3.out.trans (BE5.out.mono B3.out.size)
        have BR5 : Hid (Blk w5 w4.heap.size 28 #[.slice (some ⟨gp, 0, none⟩) ns.length ns.length]) := by rw [Hid, ← hw5]; exact Blk.new _ _ _
        have sz5 : w5.heap.size = w4.heap.size + 1 := by rw [← hw5]; simp
        have x0 : w5.cell? ⟨w.heap.size, 0, none⟩ = some (.slice An ns.length cn) := by rw [← hw5]; exact (World.cell?_alloc_lt w4 _ ⟨w.heap.size, 0, none⟩ (by show w.heap.size < _; omega)).trans u0
        have xW : w5.cell? ⟨w2.heap.size + 1, 0, none⟩ = some (.map (some w2.heap.size)) := (BM.out.below BE5.out lt3).one.1
        have HW5 := Lib.hid hw5
        clear hw5 u0 u1 u2 cW
        go_upto_region 11 with fail
        rw [HW5.out]
        have SI : Hid (∀ (B : Nat) (W : World), w5.heap.size ≤ B → B < W.heap.size → Below w5.heap.size w5 W → W.cell? ⟨B, 0, none⟩ = some (.map (some w2.heap.size)) → Calls Tryz.prog 72 #[.func (.func 116) #[] #[.pointer (some ⟨B, 0, none⟩)]] W (fun e w' => IntsPost (delM ms) W e w' ∧ Below w5.heap.size w5 w' ∧
            ∀ j, (w5.heap.size < W.heap.size → w'.cell? ⟨w5.heap.size, j, none⟩ = W.cell? ⟨w5.heap.size, j, none⟩ ∧ w'.frozen? ⟨w5.heap.size, j, none⟩ = W.frozen? ⟨w5.heap.size, j, none⟩ ∧ w5.heap.size < w'.heap.size ∧ ¬ w5.heap.size = w'.heap.size) ∧
              (w5.heap.size + 1 < W.heap.size → w'.cell? ⟨w5.heap.size + 1, j, none⟩ = W.cell? ⟨w5.heap.size + 1, j, none⟩ ∧ w'.frozen? ⟨w5.heap.size + 1, j, none⟩ = W.frozen? ⟨w5.heap.size + 1, j, none⟩ ∧ w5.heap.size + 1 < w'.heap.size ∧ ¬ w5.heap.size + 1 = w'.heap.size) ∧
              (w5.heap.size + 1 + 1 < W.heap.size → w'.cell? ⟨w5.heap.size + 1 + 1, j, none⟩ = W.cell? ⟨w5.heap.size + 1 + 1, j, none⟩ ∧ w'.frozen? ⟨w5.heap.size + 1 + 1, j, none⟩ = W.frozen? ⟨w5.heap.size + 1 + 1, j, none⟩ ∧ w5.heap.size + 1 + 1 < w'.heap.size ∧ ¬ w5.heap.size + 1 + 1 = w'.heap.size))) := fun B W hB hW hb hc =>
          (sortedIB_any B w2.heap.size ms.length ms MK.out.nodup W hW hc ((OM.out.below BE5.out (by have := OM.out.lt; omega)).below hb (by have := OM.out.lt; have := BE5.out.size; omega)) hms).mono fun e w' h => ⟨h, by obtain ⟨_, _, _, hb2⟩ := h; exact hb.trans (hb2.mono hb.size), by
            obtain ⟨_, _, _, hb2⟩ := h
            have hz2 := hb2.size
            exact fun j => ⟨fun hl => ⟨hb2.cell hl, hb2.frozen hl, by omega, by omega⟩, fun hl => ⟨hb2.cell hl, hb2.frozen hl, by omega, by omega⟩, fun hl => ⟨hb2.cell hl, hb2.frozen hl, by omega, by omega⟩⟩⟩
        have KP : Hid (∀ w', Below w5.heap.size w5 w' → w'.cell? ⟨w.heap.size, 0, none⟩ = some (.slice An ns.length cn) ∧ w'.cell? ⟨w2.heap.size + 1, 0, none⟩ = some (.map (some w2.heap.size))) := fun w' hb => ⟨(hb.cell (by show w.heap.size < _; omega)).trans x0, (hb.cell (p := ⟨w2.heap.size + 1, 0, none⟩) (by have := BE5.out.size; show w2.heap.size + 1 < _; omega)).trans xW⟩
        have SZ5 := Lib.hid sz5
        obtain ⟨j0, hj0, hy0, hy1, hy2⟩ := info_parts infoInts
        have hmk : ∀ W : World, Sem.run Tryz.prog (Instr.makeSlice 54 (.int .i64 (ns.length : Int)) (.int .i64 (ns.length : Int))) W = .ok (.slice (some ⟨W.heap.size, 0, none⟩) ns.length ns.length) (W.alloc (.cells (madeCells #[.slice none 0 0] ns.length) 28)) := fun W => by
          have := run_make (P := Tryz.prog) W 54 28 j0 (.slice none 0 0) Tryz.underlying54 hj0 hy0 .i64 .i64 (ns.length : Int) (ns.length : Int) (by omega) (Int.le_refl _) (by rw [hy2]; omega) (by omega)
          rw [hy1] at this
          simp only [Int.toNat_natCast, Nat.mul_one] at this
          exact this
        clear hmm hj0 hy0 hy1 hy2 sz5
        go_cut [15] from 39 to 47 (fun s15 wx => R11 ns.length k ms w5 s15 wx)
        case first =>
          clear H1 L1 M1 HW1 WL WM HW KC TC HE B2 BM OM BE B3 B4 BE4 IRP BE5 B5 BR5 HW5 MK SZ5
          go_region_held3 (fun w' => w'.cell? ⟨w.heap.size, 0, none⟩ = some (.slice An ns.length cn) ∧ w'.cell? ⟨w2.heap.size + 1, 0, none⟩ = some (.map (some w2.heap.size)))
            (first | exact ⟨x0, xW⟩ | (refine KP.out _ ?_; repeat (first | exact Below.refl _ _ | exact BS.out | refine below_drewS ?_ | refine below_allocS ?_ _ | refine below_setS ?_ (by first | exact Nat.le_refl _ | (dsimp only; omega) | (dsimp only; have := BS.out.size; omega)))))
            (first
              | (go_at_call 73; refine (keysIB_any _ _).mono ?_; rintro e wk ⟨rfl, rfl⟩)
              | (go_at_call 72
                 refine (SI.out _ _ (by first | exact Nat.le_refl _ | omega | simp) (by simp <;> omega) (by repeat (first | exact Below.refl _ _ | refine below_drewS ?_ | refine below_allocS ?_ _)) (by simp [go_sem])).mono ?_
                 rintro e ws ⟨⟨v1, rfl, own1, bels⟩, bs1, pos⟩
                 obtain ⟨aD, cD, rfl, _, rcD, haD⟩ := rec_of_own (d := (0 : Int)) cI_length (by decide) own1
                 have OL : Hid (∀ x : Addr, aD = some x → x.block < ws.heap.size) := fun x hx => (own1.lt x.block (by rw [hx]; rfl)).2
                 have RCD := Lib.hid rcD
                 have HAD := Lib.hid haD
                 have BS := Lib.hid bs1
                 have BLS := Lib.hid bels
                 have xc0 := pos 0
                 have xc1 := pos 1
                 have xc2 := pos 2
                 try simp [go_sem] at xc0
                 try simp [go_sem] at xc1
                 try simp [go_sem] at xc2
                 clear own1 bels bs1 rcD haD pos))
          all_goals
            go_wp2_with fail
            go_meet
            case rel =>
              have z0 := BLS.out.size
              simp at z0
              apply r11_mk
              case hX =>
                first
                  | with_reducible exact blkA0 ws _ _
                  | with_reducible exact (blkA0 ws _ _).alloc _
                  | with_reducible exact blkA1 ws _ _ _
                  | with_reducible exact fill3 (a0 := .int .i64 0) (a1 := .slice none 0 0) (a2 := .slice none 0 0) (keepD (by (first | with_reducible exact blkA0 _ _ _ | with_reducible exact (blkA0 _ _ _).alloc _ | with_reducible exact ((blkA0 _ _ _).alloc _).alloc _ | with_reducible exact blkA1 _ _ _ _ | with_reducible exact (blkA1 _ _ _ _).alloc _ | with_reducible exact blkA2 _ _ _ _ _)) BLS.out) _ _ _
                  | with_reducible exact (fill3 (a0 := .int .i64 0) (a1 := .slice none 0 0) (a2 := .slice none 0 0) (keepD (by (first | with_reducible exact blkA0 _ _ _ | with_reducible exact (blkA0 _ _ _).alloc _ | with_reducible exact ((blkA0 _ _ _).alloc _).alloc _ | with_reducible exact blkA1 _ _ _ _ | with_reducible exact (blkA1 _ _ _ _).alloc _ | with_reducible exact blkA2 _ _ _ _ _)) BLS.out) _ _ _).alloc _
              case hB =>
                repeat (first | with_reducible exact BS.out | refine below_allocS ?_ _ | refine below_setS ?_ (by dsimp only; omega))
              case hO =>
                refine RBlk.ofMade ?_
                first
                  | with_reducible exact (blkA0 ws _ _).alloc _
                  | with_reducible exact blkA1 ws _ _ _
                  | with_reducible exact made3 ws _ _ _ _ _
                  | with_reducible exact (keepD (by (first | with_reducible exact blkA0 _ _ _ | with_reducible exact (blkA0 _ _ _).alloc _ | with_reducible exact ((blkA0 _ _ _).alloc _).alloc _ | with_reducible exact blkA1 _ _ _ _ | with_reducible exact (blkA1 _ _ _ _).alloc _ | with_reducible exact blkA2 _ _ _ _ _)) BLS.out).alloc _
                  | with_reducible exact far3 (keepD (by (first | with_reducible exact blkA0 _ _ _ | with_reducible exact (blkA0 _ _ _).alloc _ | with_reducible exact ((blkA0 _ _ _).alloc _).alloc _ | with_reducible exact blkA1 _ _ _ _ | with_reducible exact (blkA1 _ _ _ _).alloc _ | with_reducible exact blkA2 _ _ _ _ _)) BLS.out) (by omega) _ _ _
              case hR =>
                first
                  | with_reducible exact RCD.out.alloc _
                  | with_reducible exact (RCD.out.alloc _).alloc _
                  | with_reducible exact rec3 RCD.out (fun x hx => by have := HAD.out x hx; simp at this; omega) _ _ _
                  | with_reducible exact (rec3 RCD.out (fun x hx => by have := HAD.out x hx; simp at this; omega) _ _ _).alloc _
              case hN => omega
              case hL => omega
              case hM => omega
              case hA =>
                intro x hx
                have q1 := HAD.out x hx
                have q2 := OL.out x hx
                simp at q1
                exact ⟨by omega, by omega⟩
        case rest =>
          obtain ⟨bO, bX, aD, cD, rfl, bel, hX, hO, hR, ne, lO, lX, hA⟩ := hcut
          have bs := bel.size
          have lt1 := hX.lt
          have lt2 := hO.lt
          have B5s := B5.out.size
          have BMl := BM.out.lt
          have BE5s := BE5.out.size
          obtain ⟨w6, hw6⟩ : ∃ w6 : World, wc.alloc (.cells #[.func (.func 74) #[] #[.pointer (some ⟨w2.heap.size + 1, 0, none⟩), .pointer (some ⟨w.heap.size, 0, none⟩), .pointer (some ⟨w4.heap.size, 0, none⟩), .pointer (some ⟨wc.heap.size, 0, none⟩), .pointer (some ⟨bX, 0, none⟩)]] 133) = w6 := ⟨_, rfl⟩
          have bel6 : Below w5.heap.size w5 w6 := by rw [← hw6]; exact bel.alloc bs _
          have sz6 : w6.heap.size = wc.heap.size + 1 := by rw [← hw6]; simp
          have sz5 := SZ5.out
          have TE : Hid (TEnv w5 ns cs lv (memW ms) An Ac (some ⟨gp, 0, none⟩) cn cc ns.length (w2.heap.size + 1) w.heap.size w4.heap.size wc.heap.size bX bO w6.heap.size w2.heap.size ms.length (k : Int) (.slice aD (delM ms).length cD) w6) := by
            refine ⟨?_, ?_, ?_, ?_, ?_, ⟨_, (OM.out.below BE5.out (by have := OM.out.lt; omega)).below bel6 (by have := OM.out.lt; omega), fun v hv => ?_⟩, ?_, ?_, bel6, lO, ?_, ?_, ?_, ?_, ?_, ?_, ?_, ?_, ?_, ?_, ?_, ?_⟩
            · exact (BM.out.below BE5.out lt3).below bel6 (by omega)
            · exact (BP1.out.below B5.out (by omega)).below bel6 (by omega)
            · exact BR5.out.below bel6 (by omega)
            · rw [← hw6]; exact Blk.new _ _ _
            · rw [← hw6]; exact hX.alloc _
            · rw [setM_get, intLits_any, List.take_length]; rfl
            · exact H1.out.below (Nat.le_refl _) B5.out
            · rw [← HW5.out]; exact IRP.out.alloc _
            all_goals omega
          have RF6 : Hid (RF w6 bO w6.heap.size ns.length (fun _ => .slice none 0 0) (fun _ => [])) := by
            refine ⟨?_, fun i hi => World.ownsRow_nil _ _ _ _, fun i j _ _ _ g e => by simp [Value.ownBlock] at e, by omega⟩
            rw [← hw6]; exact hO.alloc _
          have VC := Lib.hid (tvisit_any w5 ns cs lv (memW ms) An Ac (some ⟨gp, 0, none⟩) cn cc ns.length (w2.heap.size + 1) w.heap.size w4.heap.size wc.heap.size bX bO w6.heap.size w2.heap.size ms.length (k : Int) (.slice aD (delM ms).length cD) MK.out.T.hv (by omega) (by omega) (by omega) (ns.length + ns.length + 2) k (-1) w6 _ _ MK.out.hs MK.out.fits (Nat.le_refl _) TE.out RF6.out (fun a => by have := MK.out.len a; unfold makeOut at this; simp; omega))
          have cV : w6.cell? ⟨wc.heap.size, 0, none⟩ = some (.func (.func 74) #[] #[.pointer (some ⟨w2.heap.size + 1, 0, none⟩), .pointer (some ⟨w.heap.size, 0, none⟩), .pointer (some ⟨w4.heap.size, 0, none⟩), .pointer (some ⟨wc.heap.size, 0, none⟩), .pointer (some ⟨bX, 0, none⟩)]) := TE.out.pV.one.1
          have R6 : Hid (IsRec 1 cI 0 w6 aD (delM ms).length (delM ms)) := by rw [Hid, ← hw6]; exact hR.alloc _
          have FIN : Hid (∀ w7 V', KB w6.heap.size [bO] w6 w7 → RF w7 bO w6.heap.size ns.length V' (fun a => [] ++ outAt (outT cs lv (memW ms) (ns.length + ns.length + 2) k (-1)) a) →
              (w7.cell? ⟨bX, 0, none⟩ = some (.int .i64 k) ∧ w7.cell? ⟨bX, 1, none⟩ = some (.slice (some ⟨bO, 0, none⟩) ns.length ns.length) ∧ w7.cell? ⟨bX, 2, none⟩ = some (.slice aD (delM ms).length cD)) ∧
              (Blk w7 (w.heap.size + 1 + 1) 56 #[.int .i64 0, .slice none 0 0, .slice none 0 0]) ∧
              MkPost ns cs lv ms k w (.returned (.tuple #[.agg #[.int .i64 k, .slice (some ⟨bO, 0, none⟩) ns.length ns.length, .slice aD (delM ms).length cD], .int .i64 0])) (((w7.setCell ⟨w.heap.size + 1 + 1, 0, none⟩ (.int .i64 k)).setCell ⟨w.heap.size + 1 + 1, 1, none⟩ (.slice (some ⟨bO, 0, none⟩) ns.length ns.length)).setCell ⟨w.heap.size + 1 + 1, 2, none⟩ (.slice aD (delM ms).length cD))) := by
            intro w7 V' k7 rf7
            have te7 := TE.out.kb k7 (by omega)
            have b17 : Below w1.heap.size w1 w7 := B5.out.trans (te7.bel.mono B5s)
            obtain ⟨_, u8, _, bw7⟩ := KC.out w7 b17
            have k7s := k7.size
            refine ⟨⟨by rw [te7.pX.cell]; rfl, by rw [te7.pX.cell]; rfl, by rw [te7.pX.cell]; rfl⟩, u8, below_setS (below_setS (below_setS bw7 (by dsimp only; omega)) (by dsimp only; omega)) (by dsimp only; omega), .inr ⟨HE.out, k, rfl, MK.out, some ⟨bO, 0, none⟩, aD, ns.length, cD, by unfold trV mkT; simp, fun w'' ag => ⟨?_, ?_⟩⟩⟩
            · have rl : (mkT ns cs lv ms k).out.length = ns.length := by unfold mkT; simp
              rw [rl]
              refine ⟨rl, fun h0 => ⟨bO, 0, rfl, ?_, fun i hi => ?_⟩⟩
              · have := rf7.row.lt
                have h2 : bO < (((w7.setCell ⟨w.heap.size + 1 + 1, 0, none⟩ (.int .i64 k)).setCell ⟨w.heap.size + 1 + 1, 1, none⟩ (.slice (some ⟨bO, 0, none⟩) ns.length ns.length)).setCell ⟨w.heap.size + 1 + 1, 2, none⟩ (.slice aD (delM ms).length cD)).heap.size := by simpa [World.setCell] using this
                exact Nat.lt_of_lt_of_le h2 ag.1
              · have ge : (mkT ns cs lv ms k).out.getD i [] = makeOut ns cs lv ms k i := by unfold mkT; simp [List.getD, hi]
                rw [ge]
                obtain ⟨a, cap, hv, _, hrec, hbase⟩ := rec_of_own (d := (0 : Int)) cI_length (by decide) (rf7.own i hi)
                refine ⟨a, cap, (rec3 hrec (fun x hx => by have := hbase x hx; omega) _ _ _).agree (fun x hx => by have := hbase x hx; omega) ag, ?_⟩
                have hrow := ((rf7.row.far (p := ⟨w.heap.size + 1 + 1, 0, none⟩) (by dsimp only; omega) (.int .i64 k)).far (p := ⟨w.heap.size + 1 + 1, 1, none⟩) (by dsimp only; omega) (.slice (some ⟨bO, 0, none⟩) ns.length ns.length)).far (p := ⟨w.heap.size + 1 + 1, 2, none⟩) (by dsimp only; omega) (.slice aD (delM ms).length cD)
                have hcell := hrow.cell (i := i) (j := 0) hi (by omega)
                rw [show i * 1 + 0 = i by omega] at hcell
                rw [Nat.zero_add, World.cell?_of_block (ag.2 bO (by omega) hrow.lt)]
                refine hcell.trans ?_
                show some (V' i) = _
                rw [hv]
                rfl
            · exact (rec3 (k7.isRec R6.out rfl (fun x hx => by have := (hA x hx).1; simpa using this)) (fun x hx => by have := (hA x hx).2; omega) _ _ _).agree (fun x hx => by have := (hA x hx).2; omega) ag
          have HW6 := Lib.hid hw6
          clear bel bel6 hX hO hR hA hw6 KP SI OM BM BE BE4 BE5 BR5 IRP B2 B3 B4 B5 H1 L1 M1 HW1 HW TC HW5 BP1
          go_wp2_with fail
          rw [HW6.out]
          go_wp2_with fail
          refine VC.out.mono ?_
          rintro e w7 ⟨rfl, k7, V', rf7⟩
          obtain ⟨⟨x0, x1, x2⟩, u8, post⟩ := FIN.out w7 V' k7 rf7
          have POST := Lib.hid post
          have z0 : w7.cell? ⟨w.heap.size + 1 + 1, 0, none⟩ = some (.int .i64 0) := u8.cell 0
          have z1 : w7.cell? ⟨w.heap.size + 1 + 1, 1, none⟩ = some (.slice none 0 0) := u8.cell 1
          have z2 : w7.cell? ⟨w.heap.size + 1 + 1, 2, none⟩ = some (.slice none 0 0) := u8.cell 2
          have f0 := u8.frozen 0
          have f1 := u8.frozen 1
          have f2 := u8.frozen 2
          clear k7 rf7 post cV
          have u9 := Lib.hid (fill3 u8 (.int .i64 k) (.slice (some ⟨bO, 0, none⟩) ns.length ns.length) (.slice aD (delM ms).length cD))
          clear u8
          go_wp2_with fail
          generalize (((w7.setCell ⟨w.heap.size + 1 + 1, 0, none⟩ (.int .i64 k)).setCell ⟨w.heap.size + 1 + 1, 1, none⟩ (.slice (some ⟨bO, 0, none⟩) ns.length ns.length)).setCell ⟨w.heap.size + 1 + 1, 2, none⟩ (.slice aD (delM ms).length cD)) = w9 at *
          have g0 : w9.cell? ⟨w.heap.size + 1 + 1, 0, none⟩ = some (.int .i64 k) := u9.out.cell 0
          have g1 : w9.cell? ⟨w.heap.size + 1 + 1, 1, none⟩ = some (.slice (some ⟨bO, 0, none⟩) ns.length ns.length) := u9.out.cell 1
          have g2 : w9.cell? ⟨w.heap.size + 1 + 1, 2, none⟩ = some (.slice aD (delM ms).length cD) := u9.out.cell 2
          refine bodyPost_ret (v := .tuple #[.agg #[.int .i64 k, .slice (some ⟨bO, 0, none⟩) ns.length ns.length, .slice aD (delM ms).length cD], .int .i64 0]) (by simp [results, Tryz.results26, go_sem, g0, g1, g2]) rfl ?_
          exact POST.out
  · have HE := Lib.hid he
    have q1 : (tErr ⟨ns, cs⟩ lv ms s != 0) = true := by simpa using he
    have FIN : Hid (∀ w', Below w.heap.size w w' → MkPost ns cs lv ms s w (.returned (.tuple #[.agg #[.int .i64 0, .slice none 0 0, .slice none 0 0], .int .i64 (tErr ⟨ns, cs⟩ lv ms s)])) w') := fun w' hb => ⟨hb, .inl ⟨he, rfl⟩⟩
    clear he
    go_enter Tryz.func26, Tryz.ntmps26
    go_wp2_with fail
    rw [HW1.out]
    refine TC.out.mono ?_
    rintro e w2 ⟨rfl, bel2⟩
    have B2 := Lib.hid bel2
    obtain ⟨⟨u0, u1, u2⟩, u8, sz2, bw2⟩ := KC.out w2 bel2
    have BW2 := Lib.hid bw2
    have z0 : w2.cell? ⟨w.heap.size + 1 + 1, 0, none⟩ = some (.int .i64 0) := u8.cell 0
    have z1 : w2.cell? ⟨w.heap.size + 1 + 1, 1, none⟩ = some (.slice none 0 0) := u8.cell 1
    have z2 : w2.cell? ⟨w.heap.size + 1 + 1, 2, none⟩ = some (.slice none 0 0) := u8.cell 2
    have f0 := u8.frozen 0
    have f1 := u8.frozen 1
    have f2 := u8.frozen 2
    generalize tErr ⟨ns, cs⟩ lv ms s = te at *
    clear s0 s1 s2 bel2 u8 bw2 TC
    go_wp2_with fail
    refine bodyPost_ret (v := .tuple #[.agg #[.int .i64 0, .slice none 0 0, .slice none 0 0], .int .i64 te]) (by simp [results, Tryz.results26, go_sem, z0, z1, z2]) rfl ?_
    exact FIN.out _ (below_setS (below_setS (below_setS BW2.out (by dsimp only; omega)) (by dsimp only; omega)) (by dsimp only; omega))
end Go.Proofs.YtljojgpjgjfddaaGreat
