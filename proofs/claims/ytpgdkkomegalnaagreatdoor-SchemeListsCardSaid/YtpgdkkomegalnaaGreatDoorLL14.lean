/- Part of the proof of SchemeLists: layer. -/
import Derived.Test.YtpgdkkomegalnaaGreatDoorLL13
set_option linter.all false
namespace Go.fD
open Go
def Dy(n:Int):List Int->List Int
 |[]=>[n]|a::l=>if a>n then n::a::l else a::Dy n l
inductive Hk:List Int->Prop
 |nil:Hk []|cons {a:Int} {l:List Int}:(∀b∈l,a<b)->Hk l->Hk (a::l)
def Ay(n:Int):∀(l:List Int) (x:Int),x∈Dy n l↔x=n\/x∈l
 |[],x=>by simp[Dy]|a::l,x=>by
  unfold Dy
  split
  ·simp
  ·simp only[lQ,Ay n l x];constructor
   ·rintro(h|h|h)
    ·exact .inr (.inl h)
    ·exact .inl h
    ·exact .inr (.inr h)
   ·rintro(h|h|h)
    ·exact .inr (.inl h)
    ·exact .inl h
    ·exact .inr (.inr h)
def Jv(n:Int):∀(l:List Int),n∉l->Hk l->Hk (Dy n l)
 |[],_,_=>.cons aa2 .nil|a::l,hn,.cons c d=>by
  simp only[lQ,not_or] at hn;unfold Dy
  split
  ·rename_i f;refine .cons ?_ (.cons c d);intro b hb;rcases lQ.1 hb with rfl|hb
   ·exact f
   ·have:=c b hb;omega
  ·rename_i f;refine .cons ?_ (Jv n l hn.2 d);intro b hb;rcases(Ay n l b).1 hb with rfl|hb
   ·omega
   ·exact c b hb
def Hk.eq:∀{l m:List Int},Hk l->Hk m->(∀x,x∈l↔x∈m)->l=m
 |[],[],_,_,_=>rfl|[],b::m,_,_,h=>by have:=(h b).2 aa2;cases this
 |a::l,[],_,_,h=>by have:=(h a).1 aa2;cases this
 |a::l,b::m,.cons f j,.cons i k,h=>by
  have d:a=b:=by
   have n:=(h a).1 aa2;have o:=(h b).2 aa2;rcases lQ.1 n with e|e
   ·exact e
   ·rcases lQ.1 o with e'|e'
    ·exact e'.symm
    ·have:=i a e;have:=f b e';omega
  subst d
  rw[Hk.eq j k (λx=>by
   constructor
   ·intro c;rcases lQ.1 ((h x).1 (ags _ c))with e|e
    ·subst e;exact absurd (f x c) VW
    ·exact e
   ·intro c;rcases lQ.1 ((h x).2 (ags _ c))with e|e
    ·subst e;exact absurd (i x c) VW
    ·exact e)]
def zV(acc:List Int):List Int->List Int
 |[]=>acc|a::l=>zV (Dy a acc) l
def BH:∀(l acc:List Int) (x:Int),x∈zV acc l↔x∈acc\/x∈l
 |[],acc,x=>by simp[zV]|a::l,acc,x=>by
  rw[zV,BH l,Ay];simp only[lQ];constructor
  ·rintro((h|h)|h)
   ·exact .inr (.inl h)
   ·exact .inl h
   ·exact .inr (.inr h)
  ·rintro(h|h|h)
   ·exact .inl (.inr h)
   ·exact .inl (.inl h)
   ·exact .inr h
def BF:∀(l acc:List Int),Hk acc->l.Nodup->(∀x∈l,x∉acc)->Hk (zV acc l)
 |[],acc,h,_,_=>h|a::l,acc,h,hn,c=>by
  rw[U9] at hn;refine BF l _ (Jv a acc (c a aa2) h) hn.2 λx d b=>?_;rcases(Ay a acc x).1 b with e|e
  ·subst e;exact hn.1 d
  ·exact c x (by simp[d]) e
def xZ(l:List Int):Bool:=decide l.Nodup
end Go.fD
