/- Part of the proof of TheoryNeeds: layer. -/
import Derived.Test.YtjgjcpnoaeljkaaGreatDoorNL11
set_option linter.all false
namespace Go.eU
open Go
def AY(n:Int):List Int->List Int
 |[]=>[n]|a::l=>if a>n then n::a::l else a::AY n l
inductive Fb:List Int->Prop
 |nil:Fb []|cons {a:Int} {l:List Int}:(∀b∈l,a<b)->Fb l->Fb (a::l)
def yC(n:Int):∀(l:List Int) (x:Int),x∈AY n l↔x=n\/x∈l
 |[],x=>by simp[AY]|a::l,x=>by
  unfold AY
  split
  .simp
  .simp only[jr,yC n l x];constructor
   .rintro(h|h|h)
    .exact .inr (.inl h)
    .exact .inl h
    .exact .inr (.inr h)
   .rintro(h|h|h)
    .exact .inr (.inl h)
    .exact .inl h
    .exact .inr (.inr h)
def F3(n:Int):∀(l:List Int),n∉l->Fb l->Fb (AY n l)
 |[],_,_=>.cons aaL .nil|a::l,hn,.cons c d=>by
  simp only[jr,not_or] at hn;unfold AY
  split
  .rename_i f;refine .cons ?_ (.cons c d);intro b hb;rcases jr.1 hb with rfl|hb
   .exact f
   .have:=c b hb;omega
  .rename_i f;refine .cons ?_ (F3 n l hn.2 d);intro b hb;rcases(yC n l b).1 hb with rfl|hb
   .omega
   .exact c b hb
def Fb.eq:∀{l m:List Int},Fb l->Fb m->(∀x,x∈l↔x∈m)->l=m
 |[],[],_,_,_=>rfl|[],b::m,_,_,h=>by have:=(h b).2 aaL;cases this
 |a::l,[],_,_,h=>by have:=(h a).1 aaL;cases this
 |a::l,b::m,.cons f j,.cons i k,h=>by
  have d:a=b:=by
   have n:=(h a).1 aaL;have o:=(h b).2 aaL;rcases jr.1 n with e|e
   .exact e
   .rcases jr.1 o with e'|e'
    .exact e'.symm
    .have:=i a e;have:=f b e';omega
  subst d
  rw[Fb.eq j k (λx=>by
   constructor
   .intro c;rcases jr.1 ((h x).1 (acS _ c))with e|e
    .subst e;exact absurd (f x c) VW
    .exact e
   .intro c;rcases jr.1 ((h x).2 (acS _ c))with e|e
    .subst e;exact absurd (i x c) VW
    .exact e)]
def xP(acc:List Int):List Int->List Int
 |[]=>acc|a::l=>xP (AY a acc) l
def zH:∀(l acc:List Int) (x:Int),x∈xP acc l↔x∈acc\/x∈l
 |[],acc,x=>by simp[xP]|a::l,acc,x=>by
  rw[xP,zH l,yC];simp only[jr];constructor
  .rintro((h|h)|h)
   .exact .inr (.inl h)
   .exact .inl h
   .exact .inr (.inr h)
  .rintro(h|h|h)
   .exact .inl (.inr h)
   .exact .inl (.inl h)
   .exact .inr h
def zE:∀(l acc:List Int),Fb acc->l.Nodup->(∀x∈l,x∉acc)->Fb (xP acc l)
 |[],acc,h,_,_=>h|a::l,acc,h,hn,c=>by
  rw[UO] at hn;refine zE l _ (F3 a acc (c a aaL) h) hn.2 λx d b=>?_;rcases(yC a acc x).1 b with e|e
  .subst e;exact hn.1 d
  .exact c x (by simp[d]) e
def vS(l:List Int):Bool:=decide l.Nodup
end Go.eU
