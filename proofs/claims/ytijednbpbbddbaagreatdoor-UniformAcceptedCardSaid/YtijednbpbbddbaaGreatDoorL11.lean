/- Part of the proof of UniformExact, UniformAccepted: layer. -/
import Derived.Test.YtijednbpbbddbaaGreatDoorL10
set_option linter.all false
namespace Go.ek
open Go
def El(n:Int):List Int->List Int
 |[]=>[n]|a::l=>if a>n then n::a::l else a::El n l
inductive FI:List Int->Prop
 |nil:FI []|cons {a:Int} {l:List Int}:(∀b∈l,a<b)->FI l->FI (a::l)
def EM(n:Int):∀(l:List Int) (x:Int),x∈El n l↔x=n\/x∈l
 |[],x=>by simp[El]|a::l,x=>by
  unfold El
  split
  ·simp
  ·simp only[iL,EM n l x];constructor
   ·rintro(h|h|h)
    ·exact .inr (.inl h)
    ·exact .inl h
    ·exact .inr (.inr h)
   ·rintro(h|h|h)
    ·exact .inr (.inl h)
    ·exact .inl h
    ·exact .inr (.inr h)
def LY(n:Int):∀(l:List Int),n∉l->FI l->FI (El n l)
 |[],_,_=>.cons aaB .nil|a::l,hn,.cons c d=>by
  simp only[iL,not_or] at hn;unfold El
  split
  ·rename_i e;refine .cons ?_ (.cons c d);intro b hb;rcases iL.1 hb with rfl|hb
   ·exact e
   ·have:=c b hb;omega
  ·rename_i e;refine .cons ?_ (LY n l hn.2 d);intro b hb;rcases(EM n l b).1 hb with rfl|hb
   ·omega
   ·exact c b hb
def FI.eq:∀{l m:List Int},FI l->FI m->(∀x,x∈l↔x∈m)->l=m
 |[],[],_,_,_=>rfl|[],b::m,_,_,h=>by have:=(h b).2 aaB;cases this
 |a::l,[],_,_,h=>by have:=(h a).1 aaB;cases this
 |a::l,b::m,.cons f i,.cons g j,h=>by
  have d:a=b:=by
   have k:=(h a).1 aaB;have n:=(h b).2 aaB;rcases iL.1 k with e|e
   ·exact e
   ·rcases iL.1 n with e'|e'
    ·exact e'.symm
    ·have:=g a e;have:=f b e';omega
  subst d
  rw[FI.eq i j (λx=>by
   constructor
   ·intro c;rcases iL.1 ((h x).1 (ad4 _ c))with e|e
    ·subst e;exact absurd (f x c) VW
    ·exact e
   ·intro c;rcases iL.1 ((h x).2 (ad4 _ c))with e|e
    ·subst e;exact absurd (g x c) VW
    ·exact e)]
def yN(acc:List Int):List Int->List Int
 |[]=>acc|a::l=>yN (El a acc) l
def zJ:∀(l acc:List Int) (x:Int),x∈yN acc l↔x∈acc\/x∈l
 |[],acc,x=>by simp[yN]|a::l,acc,x=>by
  rw[yN,zJ l,EM];simp only[iL];constructor
  ·rintro((h|h)|h)
   ·exact .inr (.inl h)
   ·exact .inl h
   ·exact .inr (.inr h)
  ·rintro(h|h|h)
   ·exact .inl (.inr h)
   ·exact .inl (.inl h)
   ·exact .inr h
def zI:∀(l acc:List Int),FI acc->l.Nodup->(∀x∈l,x∉acc)->FI (yN acc l)
 |[],acc,h,_,_=>h|a::l,acc,h,hn,c=>by
  rw[St] at hn;refine zI l _ (LY a acc (c a aaB) h) hn.2 λx d b=>?_;rcases(EM a acc x).1 b with e|e
  ·subst e;exact hn.1 d
  ·exact c x (by simp[d]) e
def v8(l:List Int):Bool:=decide l.Nodup
end Go.ek
