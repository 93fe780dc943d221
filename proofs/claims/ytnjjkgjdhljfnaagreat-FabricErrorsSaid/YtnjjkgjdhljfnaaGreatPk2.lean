/- Part 2 of the proof of fabricErrors.proved: IMap CyPlain. Several texts in one, blanks struck, what is not used left out. -/
import Derived.Lib.SlKeysI
import Derived.Test.YtnjjkgjdhljfnaaGreatPk1
set_option maxRecDepth 100000
set_option maxHeartbeats 16000000
set_option linter.unusedVariables false
set_option linter.unusedSimpArgs false
namespace Go.Proofs.YtnjjkgjdhljfnaaGreat
open Go.RowKit Go.Maps
abbrev Ens:=List (Int×Int)
def lookE(E:Ens)(x:Int):Option Int:=(E.find? fun p=>p.1==x).map (·.2)
def keysE(E:Ens):List Int:=E.map (·.1)
structure Ents{H:Type}(D:DataW H)(E:Ens):Prop where
 nodup:(keysE E).Nodup
 wfk:∀p∈E,(Lit.int .i64 p.1).wf=true
 wfv:∀p∈E,(Lit.int .i64 p.2).wf=true
 has_:∀x:Int,Maps.has D (.int .i64 x)=(lookE E x).isSome
 at_:∀(x:Int) (z:DataW H),D.atKey (.int .i64 x) z=match lookE E x with|some v=>.lit (.int .i64 v)|none=>z
 size_:Maps.size D=E.length
def IMap(P:Program)(k e:TypeId)(w:World)(b:Nat)(E:Ens):Prop:=∃(H:Type) (D:DataW H),w.ownsMap P k (plainElem P e) b E.length D∧Ents D E
section
variable{P:Program}{k e t:TypeId}{w w':World}{b:Nat}{m:Option Nat}{E:Ens}
end
end Go.Proofs.YtnjjkgjdhljfnaaGreat
namespace Go.Proofs.YtnjjkgjdhljfnaaGreat
end Go.Proofs.YtnjjkgjdhljfnaaGreat
