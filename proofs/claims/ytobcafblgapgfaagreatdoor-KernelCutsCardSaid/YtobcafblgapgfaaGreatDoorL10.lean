/- Part of the proof of KernelLifts, KernelPuts, KernelCuts: layer. -/
import Derived.Test.YtobcafblgapgfaaGreatDoorL9
set_option linter.all false
namespace Go.eD
open Go
def HE(n:Int):List Int->List Int
 |[]=>[n]|a::l=>if a>n then n::a::l else a::HE n l
inductive Dk:List Int->Prop
 |nil:Dk []|cons {a:Int} {l:List Int}:(∀b∈l,a<b)->Dk l->Dk (a::l)
def Jx(n:Int):∀(l:List Int) (x:Int),x∈HE n l↔x=n\/x∈l
 |[],x=>by simp[HE]|a::l,x=>by
  unfold HE
  split
  ·simp
  ·simp only[gT,Jx n l x];constructor
   ·rintro(h|h|h)
    ·exact .inr (.inl h)
    ·exact .inl h
    ·exact .inr (.inr h)
   ·rintro(h|h|h)
    ·exact .inr (.inl h)
    ·exact .inl h
    ·exact .inr (.inr h)
def OX(n:Int):∀(l:List Int),n∉l->Dk l->Dk (HE n l)
 |[],_,_=>.cons aae .nil|a::l,hn,.cons c d=>by
  simp only[gT,not_or] at hn;unfold HE
  split
  ·rename_i e;refine .cons ?_ (.cons c d);intro b hb;rcases gT.1 hb with rfl|hb
   ·exact e
   ·have:=c b hb;omega
  ·rename_i e;refine .cons ?_ (OX n l hn.2 d);intro b hb;rcases(Jx n l b).1 hb with rfl|hb
   ·omega
   ·exact c b hb
def Dk.eq:∀{l m:List Int},Dk l->Dk m->(∀x,x∈l↔x∈m)->l=m
 |[],[],_,_,_=>rfl|[],b::m,_,_,h=>by have:=(h b).2 aae;cases this
 |a::l,[],_,_,h=>by have:=(h a).1 aae;cases this
 |a::l,b::m,.cons f i,.cons g j,h=>by
  have d:a=b:=by
   have k:=(h a).1 aae;have n:=(h b).2 aae;rcases gT.1 k with e|e
   ·exact e
   ·rcases gT.1 n with e'|e'
    ·exact e'.symm
    ·have:=g a e;have:=f b e';omega
  subst d
  rw[Dk.eq i j (λx=>by
   constructor
   ·intro c;rcases gT.1 ((h x).1 (adv _ c))with e|e
    ·subst e;exact absurd (f x c) Zb
    ·exact e
   ·intro c;rcases gT.1 ((h x).2 (adv _ c))with e|e
    ·subst e;exact absurd (g x c) Zb
    ·exact e)]
def zk(acc:List Int):List Int->List Int
 |[]=>acc|a::l=>zk (HE a acc) l
def AN:∀(l acc:List Int) (x:Int),x∈zk acc l↔x∈acc\/x∈l
 |[],acc,x=>by simp[zk]|a::l,acc,x=>by
  rw[zk,AN l,Jx];simp only[gT];constructor
  ·rintro((h|h)|h)
   ·exact .inr (.inl h)
   ·exact .inl h
   ·exact .inr (.inr h)
  ·rintro(h|h|h)
   ·exact .inl (.inr h)
   ·exact .inl (.inl h)
   ·exact .inr h
def AM:∀(l acc:List Int),Dk acc->l.Nodup->(∀x∈l,x∉acc)->Dk (zk acc l)
 |[],acc,h,_,_=>h|a::l,acc,h,hn,c=>by
  rw[Sr] at hn;refine AM l _ (OX a acc (c a aae) h) hn.2 λx d b=>?_;rcases(Jx a acc x).1 b with e|e
  ·subst e;exact hn.1 d
  ·exact c x (by simp[d]) e
def vW(l:List Int):Bool:=decide l.Nodup
end Go.eD
