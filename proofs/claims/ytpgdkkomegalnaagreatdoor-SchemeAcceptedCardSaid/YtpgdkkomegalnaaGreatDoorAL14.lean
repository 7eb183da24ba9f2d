/- Part of the proof of SchemeAccepted: layer. -/
import Derived.Test.YtpgdkkomegalnaaGreatDoorAL13
set_option linter.all false
namespace Go.fH
open Go
def Dh(n:Int):List Int->List Int
 |[]=>[n]|a::l=>if a>n then n::a::l else a::Dh n l
inductive G2:List Int->Prop
 |nil:G2 []|cons {a:Int} {l:List Int}:(∀b∈l,a<b)->G2 l->G2 (a::l)
def zQ(n:Int):∀(l:List Int) (x:Int),x∈Dh n l↔x=n\/x∈l
 |[],x=>by simp[Dh]|a::l,x=>by
  unfold Dh
  split
  ·simp
  ·simp only[lS,zQ n l x];constructor
   ·rintro(h|h|h)
    ·exact .inr (.inl h)
    ·exact .inl h
    ·exact .inr (.inr h)
   ·rintro(h|h|h)
    ·exact .inr (.inl h)
    ·exact .inl h
    ·exact .inr (.inr h)
def I2(n:Int):∀(l:List Int),n∉l->G2 l->G2 (Dh n l)
 |[],_,_=>.cons aaF .nil|a::l,hn,.cons c d=>by
  simp only[lS,not_or] at hn;unfold Dh
  split
  ·rename_i f;refine .cons ?_ (.cons c d);intro b hb;rcases lS.1 hb with rfl|hb
   ·exact f
   ·have:=c b hb;omega
  ·rename_i f;refine .cons ?_ (I2 n l hn.2 d);intro b hb;rcases(zQ n l b).1 hb with rfl|hb
   ·omega
   ·exact c b hb
def G2.eq:∀{l m:List Int},G2 l->G2 m->(∀x,x∈l↔x∈m)->l=m
 |[],[],_,_,_=>rfl|[],b::m,_,_,h=>by have:=(h b).2 aaF;cases this
 |a::l,[],_,_,h=>by have:=(h a).1 aaF;cases this
 |a::l,b::m,.cons f j,.cons i k,h=>by
  have d:a=b:=by
   have n:=(h a).1 aaF;have o:=(h b).2 aaF;rcases lS.1 n with e|e
   ·exact e
   ·rcases lS.1 o with e'|e'
    ·exact e'.symm
    ·have:=i a e;have:=f b e';omega
  subst d
  rw[G2.eq j k (λx=>by
   constructor
   ·intro c;rcases lS.1 ((h x).1 (aeS _ c))with e|e
    ·subst e;exact absurd (f x c) VW
    ·exact e
   ·intro c;rcases lS.1 ((h x).2 (aeS _ c))with e|e
    ·subst e;exact absurd (i x c) VW
    ·exact e)]
def zt(acc:List Int):List Int->List Int
 |[]=>acc|a::l=>zt (Dh a acc) l
def A9:∀(l acc:List Int) (x:Int),x∈zt acc l↔x∈acc\/x∈l
 |[],acc,x=>by simp[zt]|a::l,acc,x=>by
  rw[zt,A9 l,zQ];simp only[lS];constructor
  ·rintro((h|h)|h)
   ·exact .inr (.inl h)
   ·exact .inl h
   ·exact .inr (.inr h)
  ·rintro(h|h|h)
   ·exact .inl (.inr h)
   ·exact .inl (.inl h)
   ·exact .inr h
def Bu:∀(l acc:List Int),G2 acc->l.Nodup->(∀x∈l,x∉acc)->G2 (zt acc l)
 |[],acc,h,_,_=>h|a::l,acc,h,hn,c=>by
  rw[T0] at hn;refine Bu l _ (I2 a acc (c a aaF) h) hn.2 λx d b=>?_;rcases(zQ a acc x).1 b with e|e
  ·subst e;exact hn.1 d
  ·exact c x (by simp[d]) e
def xK(l:List Int):Bool:=decide l.Nodup
end Go.fH
