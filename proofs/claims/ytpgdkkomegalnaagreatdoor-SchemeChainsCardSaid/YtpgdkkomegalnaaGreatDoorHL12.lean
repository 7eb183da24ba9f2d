/- Part of the proof of SchemeChains: layer. -/
import Derived.Test.YtpgdkkomegalnaaGreatDoorHL11
set_option linter.all false
namespace Go.fP
open Go
def Da(n:Int):List Int->List Int
 |[]=>[n]|a::l=>if a>n then n::a::l else a::Da n l
inductive HH:List Int->Prop
 |nil:HH []|cons {a:Int} {l:List Int}:(∀b∈l,a<b)->HH l->HH (a::l)
def z'(n:Int):∀(l:List Int) (x:Int),x∈Da n l↔x=n\/x∈l
 |[],x=>by simp[Da]|a::l,x=>by
  unfold Da
  split
  .simp
  .simp only[kX,z' n l x];constructor
   .rintro(h|h|h)
    .exact .inr (.inl h)
    .exact .inl h
    .exact .inr (.inr h)
   .rintro(h|h|h)
    .exact .inr (.inl h)
    .exact .inl h
    .exact .inr (.inr h)
def IB(n:Int):∀(l:List Int),n∉l->HH l->HH (Da n l)
 |[],_,_=>.cons abm .nil|a::l,hn,.cons c d=>by
  simp only[kX,not_or] at hn;unfold Da
  split
  .rename_i f;refine .cons ?_ (.cons c d);intro b hb;rcases kX.1 hb with rfl|hb
   .exact f
   .have:=c b hb;omega
  .rename_i f;refine .cons ?_ (IB n l hn.2 d);intro b hb;rcases(z' n l b).1 hb with rfl|hb
   .omega
   .exact c b hb
def HH.eq:∀{l m:List Int},HH l->HH m->(∀x,x∈l↔x∈m)->l=m
 |[],[],_,_,_=>rfl|[],b::m,_,_,h=>by have:=(h b).2 abm;cases this
 |a::l,[],_,_,h=>by have:=(h a).1 abm;cases this
 |a::l,b::m,.cons f j,.cons i k,h=>by
  have d:a=b:=by
   have n:=(h a).1 abm;have o:=(h b).2 abm;rcases kX.1 n with e|e
   .exact e
   .rcases kX.1 o with e'|e'
    .exact e'.symm
    .have:=i a e;have:=f b e';omega
  subst d
  rw[HH.eq j k (λx=>by
   constructor
   .intro c;rcases kX.1 ((h x).1 (akf _ c))with e|e
    .subst e;exact absurd (f x c) VW
    .exact e
   .intro c;rcases kX.1 ((h x).2 (akf _ c))with e|e
    .subst e;exact absurd (i x c) VW
    .exact e)]
def zN(acc:List Int):List Int->List Int
 |[]=>acc|a::l=>zN (Da a acc) l
def Bu:∀(l acc:List Int) (x:Int),x∈zN acc l↔x∈acc\/x∈l
 |[],acc,x=>by simp[zN]|a::l,acc,x=>by
  rw[zN,Bu l,z'];simp only[kX];constructor
  .rintro((h|h)|h)
   .exact .inr (.inl h)
   .exact .inl h
   .exact .inr (.inr h)
  .rintro(h|h|h)
   .exact .inl (.inr h)
   .exact .inl (.inl h)
   .exact .inr h
def Bq:∀(l acc:List Int),HH acc->l.Nodup->(∀x∈l,x∉acc)->HH (zN acc l)
 |[],acc,h,_,_=>h|a::l,acc,h,hn,c=>by
  rw[ZJ] at hn;refine Bq l _ (IB a acc (c a abm) h) hn.2 λx d b=>?_;rcases(z' a acc x).1 b with e|e
  .subst e;exact hn.1 d
  .exact c x (by simp[d]) e
def x_(l:List Int):Bool:=decide l.Nodup
end Go.fP
