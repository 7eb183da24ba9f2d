/- Part of the proof of TheoryNeeds: layer. -/
import Derived.Test.YtjgjcpnoaeljkaaGreatDoorNL20
import Derived.Test.YtjgjcpnoaeljkaaGreatDoorNM1
set_option linter.all false
namespace Go.eU
open Go
def FH(a0:List (Int×Bool)):Option (Int×List (Int×Bool)):=some ((a0.length:Int),a0)
def om(a0:List Int)(a1:Int):Option (Bool):=cM (xj) λF=>if F then(cM (Fu a0) λx=>if x then(cM (Pl a0) λy=>cW (ss y) λa d25=>if(dj (dp a.dO) 0) then(some true)else(e_ (Bu (dp a.dO))<|cW (oL a) λl A=>cW (l8 a (yw .i64 (conv .i64 a1) (dp a.dO))) λd B=>if(en (dx A 0) true (en (dx B 0) true (dx (dp l) (dp a.dO)))) then(some false)else(cM (dg l (yw .i64 (conv .i64 a1) (dp a.dO))) λf=>e_ (dE f)<|de (λ(C:Int) (h:Int)=>(λ(v228:(List (Int×Bool)))=>cW (l8 a h) λi n=>if(en (dx n 0) true (og h (yw .i64 (conv .i64 a1) (dp a.dO)))) then(some (.ret false))else(e_ (dE i)<|de (λ(D:Int) (o:Int)=>(λ(b:(List (Int×Bool)))=>some (.next (nN b o true))):Int->Int->((List (Int×Bool)))->(Option (dW ((List (Int×Bool))) (Bool)))) λq=>cM (dF q i 0 v228) (eB (λ(b:(List (Int×Bool)))=>some (.next b)) (λr=>some (.ret r))))):Int->Int->((List (Int×Bool)))->(Option (dW ((List (Int×Bool))) (Bool)))) λs=>cM (dF s f 0 (nN [] (yw .i64 (conv .i64 a1) (dp a.dO)) true)) (eB (λ(v228:(List (Int×Bool)))=>e_ (dE d)<|de (λ(j:Int) (k:Int)=>(λ(_:Unit)=>de (λ(t:Bool)=>if t then(some (.ret false))else(some (.next ()))) λc=>if(D1 v228 k false) then(if(ly j 0) then(cM (dg d (ea .i64 j 1)) λu=>c (og u k))else(c false))else(c true)):Int->Int->(Unit)->(Option (dW (Unit) (Bool)))) λv=>cM (dF v d 0 ()) (eB (λ(_:Unit)=>cW (FH v228) λw d358=>some (dj w (dp d))) (λr=>some r))) (λr=>some r)))))else(some true))else(some false)
end Go.eU
