/- Part 10 of the proof of fabricErrors.proved: Book. Several texts in one, blanks struck, what is not used left out. -/
import Derived.BigRegion
import Derived.Lib.Hide
import Derived.Outline
import Derived.RegionTactic
import Derived.WalkKit
import Derived.WalkLawsBesides
import Derived.Test.YtnjjkgjdhljfnaaGreatPk1
set_option maxRecDepth 100000
set_option maxHeartbeats 16000000
set_option linter.unusedVariables false
set_option linter.unusedSimpArgs false
namespace Go.Proofs.YtnjjkgjdhljfnaaGreat
open Go.RowKit
def bkC(n x y:Int):Array Value:=#[.int .i64 n,.int .i64 x,.int .i64 y]
def Bk(w:World)(g:Nat)(n x y:Int):Prop:=Blk w g 146 (bkC n x y)
section
variable{w:World}{g:Nat}{n x y:Int}
theorem Bk.c0(h:Bk w g n x y):w.cell? ⟨g,0,none⟩=some (.int .i64 n):=h.cell 0
theorem Bk.c1(h:Bk w g n x y):w.cell? ⟨g,0+1,none⟩=some (.int .i64 x):=h.cell 1
theorem Bk.c2(h:Bk w g n x y):w.cell? ⟨g,0+1+1,none⟩=some (.int .i64 y):=h.cell 2
end
theorem now_any(g:Nat)(n x y:Int)(w:World)(h:Bk w g n x y):Calls Tryz.prog 47 #[.pointer (some ⟨g,0,none⟩)] w fun e w'=>e=.returned (.int .i64 n)∧w=w':=by
 have h0:=h.c0;clear h
 go_enter Tryz.func47,Tryz.ntmps47
 go_wp2
 go_ret
 exact⟨rfl,rfl⟩
theorem new_any(w:World):Calls Tryz.prog 39 #[] w fun e w'=>e=.returned (.pointer (some ⟨w.heap.size,0,none⟩))∧w.alloc (.cells (bkC 0 0 0) 146)=w':=by
 go_enter Tryz.func39,Tryz.ntmps39
 go_wp2
 go_ret
 exact⟨rfl,rfl⟩
def alv(n x y e:Int):Int:=if e<0∨n<e∨e<n-1 then 0 else if e%2=0 then x else y
theorem alv_even{n x y e:Int}(h0:0≤e)(h1:e≤n)(h2:n-1≤e)(h3:e%2=0):alv n x y e=x:=by unfold alv;rw[if_neg (by omega),if_pos h3]
theorem alv_odd{n x y e:Int}(h0:0≤e)(h1:e≤n)(h2:n-1≤e)(h3:¬e%2=0):alv n x y e=y:=by unfold alv;rw[if_neg (by omega),if_neg h3]
theorem alv_out{n x y e:Int}(h:e<0∨n<e∨e<n-1):alv n x y e=0:=by unfold alv;rw[if_pos h]
theorem alive_any(g:Nat)(n x y e:Int)(w:World)(h:Bk w g n x y)(hn0:0≤n)(hn1:n≤1099511627776):Calls Tryz.prog 61 #[.pointer (some ⟨g,0,none⟩),.int .i64 e] w fun r w'=>r=.returned (.int .i64 (alv n x y e))∧w=w':=by
 have h0:=h.c0;have h1:=h.c1;have h2:=h.c2;clear h;by_cases c1:e<0
 ·go_enter Tryz.func61,Tryz.ntmps61
  go_wp2
  go_ret
  exact⟨by simp[alv,c1],rfl⟩
 by_cases c2:n<e
 ·go_enter Tryz.func61,Tryz.ntmps61
  go_wp2
  go_ret
  exact⟨by simp[alv,c2],rfl⟩
 by_cases c3:e<n-1
 ·go_enter Tryz.func61,Tryz.ntmps61
  go_wp2
  go_ret
  exact⟨by simp[alv,c3],rfl⟩
 by_cases c4:e%2=0
 ·have c5:(e%2).toNat=0:=by omega
  go_enter Tryz.func61,Tryz.ntmps61
  go_wp2
  go_ret
  exact⟨by rw[alv_even (by omega) (by omega) (by omega) c4];rfl,rfl⟩
 ·have c6:e%2=1:=by omega
  have c5:(e%2).toNat=1:=by omega
  go_enter Tryz.func61,Tryz.ntmps61
  go_wp2
  go_ret
  exact⟨by rw[alv_odd (by omega) (by omega) (by omega) c4];rfl,rfl⟩
def upX(e x d:Int):Int:=if e%2=0 then x+d else x
def upY(e y d:Int):Int:=if e%2=0 then y else y+d
theorem Bk.setN{w:World}{g:Nat}{n x y:Int}(h:Bk w g n x y)(v:Int):Bk (w.setCell ⟨g,0,none⟩ (.int .i64 v)) g v x y:=Blk.set_ h 0 _
theorem Bk.setX{w:World}{g:Nat}{n x y:Int}(h:Bk w g n x y)(v:Int):Bk (w.setCell ⟨g,1,none⟩ (.int .i64 v)) g n v y:=Blk.set_ h 1 _
theorem Bk.setY{w:World}{g:Nat}{n x y:Int}(h:Bk w g n x y)(v:Int):Bk (w.setCell ⟨g,2,none⟩ (.int .i64 v)) g n x v:=Blk.set_ h 2 _
theorem only_set(w:World)(g i:Nat)(u:Value):w.grownBy (w.setCell ⟨g,i,none⟩ u) (some g):=only_setCell (only_refl w _) (.inl rfl) u
theorem upX_even{e x d:Int}(h:e%2=0):upX e x d=x+d:=if_pos h
theorem upY_even{e y d:Int}(h:e%2=0):upY e y d=y:=if_pos h
theorem upX_odd{e x d:Int}(h:¬e%2=0):upX e x d=x:=if_neg h
theorem upY_odd{e y d:Int}(h:¬e%2=0):upY e y d=y+d:=if_neg h
theorem inject_ok(g:Nat)(n x y:Int)(w:World)(h:Bk w g n x y)(hn:0≤n)(hx0:0≤x)(hx:x≤1099511627776)(hy0:0≤y)(hy:y≤1099511627776):Calls Tryz.prog 51 #[.pointer (some ⟨g,0,none⟩),.int .i64 n] w fun r w'=>r=.returned (.int .i64 0)∧Bk w' g n (upX n x 1) (upY n y 1)∧w.grownBy w' (some g):=by
 have h0:=h.c0;have h1:=h.c1;have h2:=h.c2;have f1:=h.frozen (0+1);have f2:=h.frozen (0+1+1);have hh:Hid (Bk w g n x y):=h;clear h;by_cases c4:n%2=0
 ·have c5:(n%2).toNat=0:=by omega
  go_enter Tryz.func51,Tryz.ntmps51
  go_wp2
  go_region
  go_wp2
  go_ret
  refine⟨rfl,?_,?_⟩
  ·rw[upX_even c4,upY_even c4];exact(hh.out.setX _).drew
  ·exact only_drew (only_set _ _ _ _)
 ·have c6:n%2=1:=by omega
  have c5:(n%2).toNat=1:=by omega
  go_enter Tryz.func51,Tryz.ntmps51
  go_wp2
  go_region
  go_wp2
  go_ret
  refine⟨rfl,?_,?_⟩
  ·rw[upX_odd c4,upY_odd c4];exact(hh.out.setY _).drew
  ·exact only_drew (only_set _ _ _ _)
theorem remove_none(g:Nat)(n x y e:Int)(w:World)(h:Bk w g n x y)(hn1:n≤1099511627776)(h0:0≤e)(h1:e≤n)(hz:alv n x y e=0):Calls Tryz.prog 97 #[.pointer (some ⟨g,0,none⟩),.int .i64 e] w fun r w'=>r=.returned (.int .i64 7)∧w=w':=by
 have hc:=h.c0;have H:=Lib.hid h;have HZ:=Lib.hid hz;clear h hz
 go_enter Tryz.func97,Tryz.ntmps97
 go_wp2_with (go_at_call 61;refine(alive_any _ n x y e _ H.out (by omega) (by omega)).mono ?_;rintro r w' ⟨rfl,rfl⟩;rw[HZ.out])
 go_ret
 exact⟨rfl,rfl⟩
theorem remove_ok(g:Nat)(n x y e:Int)(w:World)(h:Bk w g n x y)(hn1:n≤1099511627776)(h0:0≤e)(h1:e≤n)(h2:n-1≤e)(hz:0<alv n x y e)(hx0:0≤x)(hx:x≤1099511627776)(hy0:0≤y)(hy:y≤1099511627776):Calls Tryz.prog 97 #[.pointer (some ⟨g,0,none⟩),.int .i64 e] w fun r w'=>r=.returned (.int .i64 0)∧Bk w' g n (upX e x (-1)) (upY e y (-1))∧w.grownBy w' (some g):=by
 have hc0:=h.c0;have hc1:=h.c1;have hc2:=h.c2;have f1:=h.frozen (0+1);have f2:=h.frozen (0+1+1);have H:=Lib.hid h;clear h;by_cases c4:e%2=0
 ·have c5:(e%2).toNat=0:=by omega
  rw[alv_even h0 h1 h2 c4]at hz
  go_enter Tryz.func97,Tryz.ntmps97
  go_wp2_with (go_at_call 61;refine(alive_any _ n x y e _ H.out (by omega) (by omega)).mono ?_;rintro r w' ⟨rfl,rfl⟩;rw[alv_even h0 h1 h2 c4])
  go_region
  go_wp2
  go_ret
  refine⟨rfl,?_,?_⟩
  ·rw[upX_even c4,upY_even c4];exact(H.out.setX _).drew
  ·exact only_drew (only_set _ _ _ _)
 ·have c6:e%2=1:=by omega
  have c5:(e%2).toNat=1:=by omega
  rw[alv_odd h0 h1 h2 c4]at hz
  go_enter Tryz.func97,Tryz.ntmps97
  go_wp2_with (go_at_call 61;refine(alive_any _ n x y e _ H.out (by omega) (by omega)).mono ?_;rintro r w' ⟨rfl,rfl⟩;rw[alv_odd h0 h1 h2 c4])
  go_region
  go_wp2
  go_ret
  refine⟨rfl,?_,?_⟩
  ·rw[upX_odd c4,upY_odd c4];exact(H.out.setY _).drew
  ·exact only_drew (only_set _ _ _ _)
theorem advance_state(g:Nat)(n x y:Int)(w:World)(h:Bk w g n x y)(hn0:0≤n)(hn1:n≤1099511627776)(hz:0<alv n x y (n-1)):Calls Tryz.prog 52 #[.pointer (some ⟨g,0,none⟩)] w fun r w'=>r=.returned (.int .i64 6)∧w=w':=by
 have hc:=h.c0;have H:=Lib.hid h;have HZ:=Lib.hid hz;clear h hz
 go_enter Tryz.func52,Tryz.ntmps52
 go_wp2_with (go_at_call 61;refine(alive_any _ n x y _ _ H.out (by omega) (by omega)).mono ?_;rintro r w' ⟨rfl,rfl⟩;have HZ2:=HZ.out)
 go_ret
 exact⟨rfl,rfl⟩
theorem advance_ok(g:Nat)(n x y:Int)(w:World)(h:Bk w g n x y)(hn0:0≤n)(hn1:n<1099511627775)(hz:alv n x y (n-1)=0):Calls Tryz.prog 52 #[.pointer (some ⟨g,0,none⟩)] w fun r w'=>r=.returned (.int .i64 0)∧w.setCell ⟨g,0,none⟩ (.int .i64 (n+1))=w':=by
 have hc:=h.c0;have f0:=h.frozen 0;have H:=Lib.hid h;have HZ:=Lib.hid hz;have hne:(n==1099511627775)=false:=by rw[beq_eq_false_iff_ne];omega
 clear h hz
 go_enter Tryz.func52,Tryz.ntmps52
 go_wp2_with (go_at_call 61;refine(alive_any _ n x y _ _ H.out (by omega) (by omega)).mono ?_;rintro r w' ⟨rfl,rfl⟩;rw[HZ.out])
 go_ret
 exact⟨rfl,rfl⟩
end Go.Proofs.YtnjjkgjdhljfnaaGreat
