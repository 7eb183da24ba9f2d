/- Part of the proof of TheoryBegins: layer. -/
import Derived.Test.YtjgjcpnoaeljkaaGreatDoorAL11
set_option linter.all false
namespace Go.eZ
open Go
def AP(n:Int):List Int->List Int
 |[]=>[n]|a::l=>if a>n then n::a::l else a::AP n l
inductive FA:List Int->Prop
 |nil:FA []|cons {a:Int} {l:List Int}:(∀b∈l,a<b)->FA l->FA (a::l)
def yw(n:Int):∀(l:List Int) (x:Int),x∈AP n l↔x=n\/x∈l
 |[],x=>by simp[AP]|a::l,x=>by
  unfold AP
  split
  .simp
  .simp only[j8,yw n l x];constructor
   .rintro(h|h|h)
    .exact .inr (.inl h)
    .exact .inl h
    .exact .inr (.inr h)
   .rintro(h|h|h)
    .exact .inr (.inl h)
    .exact .inl h
    .exact .inr (.inr h)
def F4(n:Int):∀(l:List Int),n∉l->FA l->FA (AP n l)
 |[],_,_=>.cons acZ .nil|a::l,hn,.cons c d=>by
  simp only[j8,not_or] at hn;unfold AP
  split
  .rename_i f;refine .cons ?_ (.cons c d);intro b hb;rcases j8.1 hb with rfl|hb
   .exact f
   .have:=c b hb;omega
  .rename_i f;refine .cons ?_ (F4 n l hn.2 d);intro b hb;rcases(yw n l b).1 hb with rfl|hb
   .omega
   .exact c b hb
def FA.eq:∀{l m:List Int},FA l->FA m->(∀x,x∈l↔x∈m)->l=m
 |[],[],_,_,_=>rfl|[],b::m,_,_,h=>by have:=(h b).2 acZ;cases this
 |a::l,[],_,_,h=>by have:=(h a).1 acZ;cases this
 |a::l,b::m,.cons f j,.cons i k,h=>by
  have d:a=b:=by
   have n:=(h a).1 acZ;have o:=(h b).2 acZ;rcases j8.1 n with e|e
   .exact e
   .rcases j8.1 o with e'|e'
    .exact e'.symm
    .have:=i a e;have:=f b e';omega
  subst d
  rw[FA.eq j k (λx=>by
   constructor
   .intro c;rcases j8.1 ((h x).1 (abB _ c))with e|e
    .subst e;exact absurd (f x c) VW
    .exact e
   .intro c;rcases j8.1 ((h x).2 (abB _ c))with e|e
    .subst e;exact absurd (i x c) VW
    .exact e)]
def xT(acc:List Int):List Int->List Int
 |[]=>acc|a::l=>xT (AP a acc) l
def zC:∀(l acc:List Int) (x:Int),x∈xT acc l↔x∈acc\/x∈l
 |[],acc,x=>by simp[xT]|a::l,acc,x=>by
  rw[xT,zC l,yw];simp only[j8];constructor
  .rintro((h|h)|h)
   .exact .inr (.inl h)
   .exact .inl h
   .exact .inr (.inr h)
  .rintro(h|h|h)
   .exact .inl (.inr h)
   .exact .inl (.inl h)
   .exact .inr h
def zW:∀(l acc:List Int),FA acc->l.Nodup->(∀x∈l,x∉acc)->FA (xT acc l)
 |[],acc,h,_,_=>h|a::l,acc,h,hn,c=>by
  rw[Ux] at hn;refine zW l _ (F4 a acc (c a acZ) h) hn.2 λx d b=>?_;rcases(yw a acc x).1 b with e|e
  .subst e;exact hn.1 d
  .exact c x (by simp[d]) e
def w5(l:List Int):Bool:=decide l.Nodup
end Go.eZ
