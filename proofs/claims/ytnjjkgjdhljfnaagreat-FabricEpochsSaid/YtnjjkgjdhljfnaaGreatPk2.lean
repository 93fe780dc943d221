/- Part 2. -/
import Derived.Lib.SlKeysI
import Derived.Test.YtnjjkgjdhljfnaaGreatPk1
set_option maxRecDepth 100000
set_option maxHeartbeats 16000000
set_option linter.unusedVariables false
set_option linter.unusedSimpArgs false
namespace Go.Proofs.YtnjjkgjdhljfnaaGreat
section
open Go.RowKit Go.Maps
abbrev Ens:=List (Int×Int)
def ajK(E:Ens)(x:Int):Option Int:=(E.find? fun p=>p.1==x).map (·.2)
def arD(E:Ens):List Int:=E.map (·.1)
structure Ents{H:Type}(D:DataW H)(E:Ens):Prop where
 nodup:(arD E).Nodup
 wfk:∀p∈E,(Lit.int .i64 p.1).wf=true
 wfv:∀p∈E,(Lit.int .i64 p.2).wf=true
 aIq:∀x:Int,Maps.has D (.int .i64 x)=(ajK E x).isSome
 at_:∀(x:Int) (z:DataW H),D.atKey (.int .i64 x) z=match ajK E x with|some v=>.lit (.int .i64 v)|none=>z
 aEY:Maps.size D=E.length
def avR(P:Program)(k e:TypeId)(w:World)(b:Nat)(E:Ens):Prop:=∃(H:Type) (D:DataW H),w.ownsMap P k (plainElem P e) b E.length D/\Ents D E
end
end Go.Proofs.YtnjjkgjdhljfnaaGreat
