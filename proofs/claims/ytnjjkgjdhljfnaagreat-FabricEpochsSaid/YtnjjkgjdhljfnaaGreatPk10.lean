/- Part 10. -/
import Derived.BigRegion
import Derived.Test.YtnjjkgjdhljfnaaGreatPk1
open Go.Proofs.Tryz
open Go renaming Calls->bZ,World->aG
open Go.Ending renaming returned->ax
open Go.IntKind renaming i64->ag
open Go.Lib renaming hid->aA
open Go.Obj renaming cells->af
open Go.Proofs.Tryz renaming prog->aH
open Go.Value renaming int->ah,pointer->au
open Option renaming none->aj,some->az
set_option maxRecDepth 100000
set_option maxHeartbeats 16000000
set_option linter.unusedVariables false
set_option linter.unusedSimpArgs false
namespace Go.Proofs.YtnjjkgjdhljfnaaGreat
open Go.RowKit
def bkC(n x y:Int):Array Value:=#[ah ag n,ah ag x,ah ag y]
def Bk(w:aG)(g:Nat)(n x y:Int):Prop:=dh w g 146 (bkC n x y)
section
variable{w:aG}{g:Nat}{n x y:Int}
theorem Bk.c0(h:Bk w g n x y):w.cell? ⟨g,0,aj⟩=az (ah ag n):=h.cell 0
theorem Bk.c1(h:Bk w g n x y):w.cell? ⟨g,0+1,aj⟩=az (ah ag x):=h.cell 1
theorem Bk.c2(h:Bk w g n x y):w.cell? ⟨g,0+1+1,aj⟩=az (ah ag y):=h.cell 2
end
theorem Og(g:Nat)(n x y:Int)(w:aG)(h:Bk w g n x y):bZ aH 47 #[au (az ⟨g,0,aj⟩)] w fun e w'=>e=ax (ah ag n)/\w=w':=by have h0:=h.c0;clear h;go_enter func47,ntmps47;go_wp2;go_ret;exact⟨rfl,rfl⟩
theorem aih(w:aG):bZ aH 39 #[] w fun e w'=>e=ax (au (az ⟨w.heap.size,0,aj⟩))/\w.alloc (af (bkC 0 0 0) 146)=w':=by
 go_enter func39,ntmps39;go_wp2
 go_ret;exact⟨rfl,rfl⟩
def UU(n x y e:Int):Int:=if e<0\/n<e\/e<n-1 then 0 else if e%2=0 then x else y
theorem OE{n x y e:Int}(h0:0<=e)(h1:e<=n)(h2:n-1<=e)(h3:e%2=0):UU n x y e=x:=by unfold UU;rw[if_neg (by omega),if_pos h3]
theorem Tq{n x y e:Int}(h0:0<=e)(h1:e<=n)(h2:n-1<=e)(h3:¬e%2=0):UU n x y e=y:=by unfold UU;rw[if_neg (by omega),if_neg h3]
theorem ahd{n x y e:Int}(h:e<0\/n<e\/e<n-1):UU n x y e=0:=by unfold UU;rw[if_pos h]
theorem xh(g:Nat)(n x y e:Int)(w:aG)(h:Bk w g n x y)(hn0:0<=n)(hn1:n<=1099511627776):bZ aH 61 #[au (az ⟨g,0,aj⟩),ah ag e] w fun r w'=>r=ax (ah ag (UU n x y e))/\w=w':=by
 have h0:=h.c0;have h1:=h.c1;have h2:=h.c2;clear h;by_cases c1:e<0
 ·go_enter func61,ntmps61;go_wp2
  go_ret;exact⟨by simp[UU,c1],rfl⟩
 by_cases c2:n<e
 ·go_enter func61,ntmps61;go_wp2
  go_ret;exact⟨by simp[UU,c2],rfl⟩
 by_cases c3:e<n-1
 ·go_enter func61,ntmps61;go_wp2
  go_ret;exact⟨by simp[UU,c3],rfl⟩
 by_cases c4:e%2=0
 ·have c5:(e%2).toNat=0:=by omega
  go_enter func61,ntmps61;go_wp2
  go_ret;exact⟨by rw[OE (by omega) (by omega) (by omega) c4];rfl,rfl⟩
 ·have c6:e%2=1:=by omega
  have c5:(e%2).toNat=1:=by omega
  go_enter func61,ntmps61;go_wp2
  go_ret;exact⟨by rw[Tq (by omega) (by omega) (by omega) c4];rfl,rfl⟩
def upX(e x d:Int):Int:=if e%2=0 then x+d else x
def upY(e y d:Int):Int:=if e%2=0 then y else y+d
theorem Bk.acF{w:aG}{g:Nat}{n x y:Int}(h:Bk w g n x y)(v:Int):Bk (w.setCell ⟨g,0,aj⟩ (ah ag v)) g v x y:=dh.jd h 0 _
theorem Bk.asA{w:aG}{g:Nat}{n x y:Int}(h:Bk w g n x y)(v:Int):Bk (w.setCell ⟨g,1,aj⟩ (ah ag v)) g n v y:=dh.jd h 1 _
theorem Bk.asB{w:aG}{g:Nat}{n x y:Int}(h:Bk w g n x y)(v:Int):Bk (w.setCell ⟨g,2,aj⟩ (ah ag v)) g n x v:=dh.jd h 2 _
theorem Kr(w:aG)(g i:Nat)(u:Value):w.grownBy (w.setCell ⟨g,i,aj⟩ u) (az g):=wG (zg w _) (.inl rfl) u
theorem WJ{e x d:Int}(h:e%2=0):upX e x d=x+d:=if_pos h
theorem WK{e y d:Int}(h:e%2=0):upY e y d=y:=if_pos h
theorem aal{e x d:Int}(h:¬e%2=0):upX e x d=x:=if_neg h
theorem aam{e y d:Int}(h:¬e%2=0):upY e y d=y+d:=if_neg h
theorem abQ(g:Nat)(n x y:Int)(w:aG)(h:Bk w g n x y)(hn:0<=n)(hx0:0<=x)(hx:x<=1099511627776)(zb:0<=y)(hy:y<=1099511627776):bZ aH 51 #[au (az ⟨g,0,aj⟩),ah ag n] w fun r w'=>r=ax (ah ag 0)/\Bk w' g n (upX n x 1) (upY n y 1)/\w.grownBy w' (az g):=by
 have h0:=h.c0;have h1:=h.c1;have h2:=h.c2;have f1:=h.frozen (0+1);have f2:=h.frozen (0+1+1);have hh:Hid (Bk w g n x y):=h;clear h;by_cases c4:n%2=0
 ·have c5:(n%2).toNat=0:=by omega
  go_enter func51,ntmps51;go_wp2
  go_region
  go_wp2
  go_ret;refine⟨rfl,?_,?_⟩
  ·rw[WJ c4,WK c4];exact(hh.out.asA _).drew
  ·exact Gn (Kr _ _ _ _)
 ·have c6:n%2=1:=by omega
  have c5:(n%2).toNat=1:=by omega
  go_enter func51,ntmps51;go_wp2
  go_region
  go_wp2
  go_ret;refine⟨rfl,?_,?_⟩
  ·rw[aal c4,aam c4];exact(hh.out.asB _).drew
  ·exact Gn (Kr _ _ _ _)
theorem Wu(g:Nat)(n x y e:Int)(w:aG)(h:Bk w g n x y)(hn1:n<=1099511627776)(h0:0<=e)(h1:e<=n)(hz:UU n x y e=0):bZ aH 97 #[au (az ⟨g,0,aj⟩),ah ag e] w fun r w'=>r=ax (ah ag 7)/\w=w':=by have hc:=h.c0;have H:=aA h;have HZ:=aA hz;clear h hz;go_enter func97,ntmps97;go_wp2_with (go_at_call 61;refine(xh _ n x y e _ H.o (by omega) (by omega)).mono ?_;rintro r w' ⟨rfl,rfl⟩;rw[HZ.o]);go_ret;exact⟨rfl,rfl⟩
theorem acw(g:Nat)(n x y e:Int)(w:aG)(h:Bk w g n x y)(hn1:n<=1099511627776)(h0:0<=e)(h1:e<=n)(h2:n-1<=e)(hz:0<UU n x y e)(hx0:0<=x)(hx:x<=1099511627776)(zb:0<=y)(hy:y<=1099511627776):bZ aH 97 #[au (az ⟨g,0,aj⟩),ah ag e] w fun r w'=>r=ax (ah ag 0)/\Bk w' g n (upX e x (-1)) (upY e y (-1))/\w.grownBy w' (az g):=by
 have hc0:=h.c0;have hc1:=h.c1;have Pq:=h.c2;have f1:=h.frozen (0+1);have f2:=h.frozen (0+1+1);have H:=aA h;clear h;by_cases c4:e%2=0
 ·have c5:(e%2).toNat=0:=by omega
  rw[OE h0 h1 h2 c4]at hz;go_enter func97,ntmps97;go_wp2_with (go_at_call 61;refine(xh _ n x y e _ H.o (by omega) (by omega)).mono ?_;rintro r w' ⟨rfl,rfl⟩;rw[OE h0 h1 h2 c4]);go_region;go_wp2;go_ret;refine⟨rfl,?_,?_⟩
  ·rw[WJ c4,WK c4];exact(H.o.asA _).drew
  ·exact Gn (Kr _ _ _ _)
 ·have c6:e%2=1:=by omega
  have c5:(e%2).toNat=1:=by omega
  rw[Tq h0 h1 h2 c4]at hz;go_enter func97,ntmps97;go_wp2_with (go_at_call 61;refine(xh _ n x y e _ H.o (by omega) (by omega)).mono ?_;rintro r w' ⟨rfl,rfl⟩;rw[Tq h0 h1 h2 c4]);go_region;go_wp2;go_ret;refine⟨rfl,?_,?_⟩
  ·rw[aal c4,aam c4];exact(H.o.asB _).drew
  ·exact Gn (Kr _ _ _ _)
theorem QJ(g:Nat)(n x y:Int)(w:aG)(h:Bk w g n x y)(hn0:0<=n)(hn1:n<=1099511627776)(hz:0<UU n x y (n-1)):bZ aH 52 #[au (az ⟨g,0,aj⟩)] w fun r w'=>r=ax (ah ag 6)/\w=w':=by have hc:=h.c0;have H:=aA h;have HZ:=aA hz;clear h hz;go_enter func52,ntmps52;go_wp2_with (go_at_call 61;refine(xh _ n x y _ _ H.o (by omega) (by omega)).mono ?_;rintro r w' ⟨rfl,rfl⟩;have HZ2:=HZ.o);go_ret;exact⟨rfl,rfl⟩
theorem Xz(g:Nat)(n x y:Int)(w:aG)(h:Bk w g n x y)(hn0:0<=n)(hn1:n<1099511627775)(hz:UU n x y (n-1)=0):bZ aH 52 #[au (az ⟨g,0,aj⟩)] w fun r w'=>r=ax (ah ag 0)/\w.setCell ⟨g,0,aj⟩ (ah ag (n+1))=w':=by
 have hc:=h.c0;have f0:=h.frozen 0;have H:=aA h;have HZ:=aA hz;have nQ:(n==1099511627775)=false:=by rw[beq_eq_false_iff_ne];omega
 clear h hz;go_enter func52,ntmps52;go_wp2_with (go_at_call 61;refine(xh _ n x y _ _ H.o (by omega) (by omega)).mono ?_;rintro r w' ⟨rfl,rfl⟩;rw[HZ.o]);go_ret;exact⟨rfl,rfl⟩
end Go.Proofs.YtnjjkgjdhljfnaaGreat
