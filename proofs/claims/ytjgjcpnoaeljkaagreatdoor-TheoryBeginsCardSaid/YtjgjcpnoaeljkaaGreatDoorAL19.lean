/- Part of the proof of TheoryBegins: layer. -/
import Derived.Test.YtjgjcpnoaeljkaaGreatDoorAL18
set_option linter.all false
namespace Go.kQ
open Go Go.RowKit
def UE(w:World):GW (λ_=>none) (λ_=>0) (λ_ _=>none) [] w where
 BQ:=by intro b o v h;cases h
 j2:=by intro o cs h;simp at h
 inj:=by intro o o' h;exact absurd h (Zo _)
 gF:=by intro o j h _;rfl
 fresh:=by intro b j h;rfl
 x':=by intro g x h;cases h
 row:=by intro _ b o v h;cases h
def Ut{F:jo}{G:Nat->Nat}{n:Nat}{a:AV}{vs:List Value}(h:fI F G n [a] vs):∃v,vs=[v]/\fD F G n a v:=by
 cases h with
 |cons b c=>cases c;exact⟨_,rfl,b⟩
def acr{F:jo}{G:Nat->Nat}{n:Nat}{a b:AV}{vs:List Value}(h:fI F G n [a,b] vs):∃v x,vs=[v,x]/\fD F G n a v/\fD F G n b x:=by
 cases h with
 |cons c d=>
  obtain⟨x,rfl,f⟩:=Ut d;exact⟨_,_,rfl,c,f⟩
end Go.kQ
