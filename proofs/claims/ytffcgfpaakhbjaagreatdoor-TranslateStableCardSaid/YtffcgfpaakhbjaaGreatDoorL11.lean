/- Part of the proof of TranslateStable: layer. -/
import Derived.Test.YtffcgfpaakhbjaaGreatDoorL10
set_option linter.all false
namespace Go.dG
open Go
def AN(n:Int):List Int->List Int
 |[]=>[n]|a::l=>if a>n then n::a::l else a::AN n l
inductive EK:List Int->Prop
 |nil:EK []|cons {a:Int} {l:List Int}:(∀b∈l,a<b)->EK l->EK (a::l)
def yM(n:Int):∀(l:List Int) (x:Int),x∈AN n l↔x=n\/x∈l
 |[],x=>by simp[AN]|a::l,x=>by
  unfold AN
  split
  ·simp
  ·simp only[jW,yM n l x];constructor
   ·rintro(h|h|h)
    ·exact .inr (.inl h)
    ·exact .inl h
    ·exact .inr (.inr h)
   ·rintro(h|h|h)
    ·exact .inr (.inl h)
    ·exact .inl h
    ·exact .inr (.inr h)
def E_(n:Int):∀(l:List Int),n∉l->EK l->EK (AN n l)
 |[],_,_=>.cons aas .nil|a::l,hn,.cons c d=>by
  simp only[jW,not_or] at hn;unfold AN
  split
  ·rename_i e;refine .cons ?_ (.cons c d);intro b hb;rcases jW.1 hb with rfl|hb
   ·exact e
   ·have:=c b hb;omega
  ·rename_i e;refine .cons ?_ (E_ n l hn.2 d);intro b hb;rcases(yM n l b).1 hb with rfl|hb
   ·omega
   ·exact c b hb
def EK.eq:∀{l m:List Int},EK l->EK m->(∀x,x∈l↔x∈m)->l=m
 |[],[],_,_,_=>rfl|[],b::m,_,_,h=>by have:=(h b).2 aas;cases this
 |a::l,[],_,_,h=>by have:=(h a).1 aas;cases this
 |a::l,b::m,.cons f i,.cons g j,h=>by
  have d:a=b:=by
   have k:=(h a).1 aas;have n:=(h b).2 aas;rcases jW.1 k with e|e
   ·exact e
   ·rcases jW.1 n with e'|e'
    ·exact e'.symm
    ·have:=g a e;have:=f b e';omega
  subst d
  rw[EK.eq i j (λx=>by
   constructor
   ·intro c;rcases jW.1 ((h x).1 (ZQ _ c))with e|e
    ·subst e;exact absurd (f x c) VW
    ·exact e
   ·intro c;rcases jW.1 ((h x).2 (ZQ _ c))with e|e
    ·subst e;exact absurd (g x c) VW
    ·exact e)]
def xJ(acc:List Int):List Int->List Int
 |[]=>acc|a::l=>xJ (AN a acc) l
def y7:∀(l acc:List Int) (x:Int),x∈xJ acc l↔x∈acc\/x∈l
 |[],acc,x=>by simp[xJ]|a::l,acc,x=>by
  rw[xJ,y7 l,yM];simp only[jW];constructor
  ·rintro((h|h)|h)
   ·exact .inr (.inl h)
   ·exact .inl h
   ·exact .inr (.inr h)
  ·rintro(h|h|h)
   ·exact .inl (.inr h)
   ·exact .inl (.inl h)
   ·exact .inr h
def zl:∀(l acc:List Int),EK acc->l.Nodup->(∀x∈l,x∉acc)->EK (xJ acc l)
 |[],acc,h,_,_=>h|a::l,acc,h,hn,c=>by
  rw[Rx] at hn;refine zl l _ (E_ a acc (c a aas) h) hn.2 λx d b=>?_;rcases(yM a acc x).1 b with e|e
  ·subst e;exact hn.1 d
  ·exact c x (by simp[d]) e
def vI(l:List Int):Bool:=decide l.Nodup
end Go.dG
