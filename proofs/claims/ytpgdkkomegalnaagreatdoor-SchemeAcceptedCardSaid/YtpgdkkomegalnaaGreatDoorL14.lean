/- Part of the proof of SchemeAccepted: layer. -/
import Derived.Test.YtpgdkkomegalnaaGreatDoorL13
set_option linter.all false
namespace Go.fN
open Go
def Ci(n:Int):List Int->List Int
 |[]=>[n]|a::l=>if a>n then n::a::l else a::Ci n l
inductive GP:List Int->Prop
 |nil:GP []|cons {a:Int} {l:List Int}:(∀b∈l,a<b)->GP l->GP (a::l)
def zR(n:Int):∀(l:List Int) (x:Int),x∈Ci n l↔x=n\/x∈l
 |[],x=>by simp[Ci]|a::l,x=>by
  unfold Ci
  split
  ·simp
  ·simp only[lX,zR n l x];constructor
   ·rintro(h|h|h)
    ·exact .inr (.inl h)
    ·exact .inl h
    ·exact .inr (.inr h)
   ·rintro(h|h|h)
    ·exact .inr (.inl h)
    ·exact .inl h
    ·exact .inr (.inr h)
def HF(n:Int):∀(l:List Int),n∉l->GP l->GP (Ci n l)
 |[],_,_=>.cons LA .nil|a::l,hn,.cons c d=>by
  simp only[lX,not_or] at hn;unfold Ci
  split
  ·rename_i f;refine .cons ?_ (.cons c d);intro b hb;rcases lX.1 hb with rfl|hb
   ·exact f
   ·have:=c b hb;omega
  ·rename_i f;refine .cons ?_ (HF n l hn.2 d);intro b hb;rcases(zR n l b).1 hb with rfl|hb
   ·omega
   ·exact c b hb
def GP.eq:∀{l m:List Int},GP l->GP m->(∀x,x∈l↔x∈m)->l=m
 |[],[],_,_,_=>rfl|[],b::m,_,_,h=>by have:=(h b).2 LA;cases this
 |a::l,[],_,_,h=>by have:=(h a).1 LA;cases this
 |a::l,b::m,.cons f j,.cons i k,h=>by
  have d:a=b:=by
   have n:=(h a).1 LA;have o:=(h b).2 LA;rcases lX.1 n with e|e
   ·exact e
   ·rcases lX.1 o with e'|e'
    ·exact e'.symm
    ·have:=i a e;have:=f b e';omega
  subst d
  rw[GP.eq j k (λx=>by
   constructor
   ·intro c;rcases lX.1 ((h x).1 (akr _ c))with e|e
    ·subst e;exact absurd (f x c) xL
    ·exact e
   ·intro c;rcases lX.1 ((h x).2 (akr _ c))with e|e
    ·subst e;exact absurd (i x c) xL
    ·exact e)]
def y8(acc:List Int):List Int->List Int
 |[]=>acc|a::l=>y8 (Ci a acc) l
def Be:∀(l acc:List Int) (x:Int),x∈y8 acc l↔x∈acc\/x∈l
 |[],acc,x=>by simp[y8]|a::l,acc,x=>by
  rw[y8,Be l,zR];simp only[lX];constructor
  ·rintro((h|h)|h)
   ·exact .inr (.inl h)
   ·exact .inl h
   ·exact .inr (.inr h)
  ·rintro(h|h|h)
   ·exact .inl (.inr h)
   ·exact .inl (.inl h)
   ·exact .inr h
def AZ:∀(l acc:List Int),GP acc->l.Nodup->(∀x∈l,x∉acc)->GP (y8 acc l)
 |[],acc,h,_,_=>h|a::l,acc,h,hn,c=>by
  rw[YR] at hn;refine AZ l _ (HF a acc (c a LA) h) hn.2 λx d b=>?_;rcases(zR a acc x).1 b with e|e
  ·subst e;exact hn.1 d
  ·exact c x (by simp[d]) e
def xh(l:List Int):Bool:=decide l.Nodup
end Go.fN
