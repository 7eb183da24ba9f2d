/- Part of the proof of TheoryNeeds: layer. -/
import Derived.Test.YtjgjcpnoaeljkaaGreatDoorNL18
set_option linter.all false
namespace Go.kC
open Go Go.RowKit
def UE(w:World):GW (λ_=>none) (λ_=>0) (λ_ _=>none) [] w where
 Cp:=by intro b o v h;cases h
 jU:=by intro o cs h;simp at h
 inj:=by intro o o' h;exact absurd h (Y' _)
 gF:=by intro o j h _;rfl
 fresh:=by intro b j h;rfl
 xX:=by intro g x h;cases h
 row:=by intro _ b o v h;cases h
def TK{F:jo}{G:Nat->Nat}{n:Nat}{a:AV}{vs:List Value}(h:fG F G n [a] vs):∃v,vs=[v]/\fE F G n a v:=by
 cases h with
 |cons b c=>cases c;exact⟨_,rfl,b⟩
def aaO{F:jo}{G:Nat->Nat}{n:Nat}{a b:AV}{vs:List Value}(h:fG F G n [a,b] vs):∃v x,vs=[v,x]/\fE F G n a v/\fE F G n b x:=by
 cases h with
 |cons c d=>
  obtain⟨x,rfl,f⟩:=TK d;exact⟨_,_,rfl,c,f⟩
end Go.kC
