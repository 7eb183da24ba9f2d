/- Part of the proof of KernelAccepts, KernelDoes: layer. -/
import Derived.Test.YtobcafblgapgfaaGreatDoorL10
set_option linter.all false
namespace Go.fB
open Go
def A3(n:Int):List Int->List Int
 |[]=>[n]|a::l=>if a>n then n::a::l else a::A3 n l
inductive EC:List Int->Prop
 |nil:EC []|cons {a:Int} {l:List Int}:(∀b∈l,a<b)->EC l->EC (a::l)
def yz(n:Int):∀(l:List Int) (x:Int),x∈A3 n l↔x=n\/x∈l
 |[],x=>by simp[A3]|a::l,x=>by
  unfold A3
  split
  ·simp
  ·simp only[j0,yz n l x];constructor
   ·rintro(h|h|h)
    ·exact .inr (.inl h)
    ·exact .inl h
    ·exact .inr (.inr h)
   ·rintro(h|h|h)
    ·exact .inr (.inl h)
    ·exact .inl h
    ·exact .inr (.inr h)
def Gz(n:Int):∀(l:List Int),n∉l->EC l->EC (A3 n l)
 |[],_,_=>.cons aa4 .nil|a::l,hn,.cons h1 c=>by
  simp only[j0,not_or] at hn;unfold A3
  split
  ·rename_i d;refine .cons ?_ (.cons h1 c);intro b hb;rcases j0.1 hb with rfl|hb
   ·exact d
   ·have:=h1 b hb;omega
  ·rename_i d;refine .cons ?_ (Gz n l hn.2 c);intro b hb;rcases(yz n l b).1 hb with rfl|hb
   ·omega
   ·exact h1 b hb
def EC.eq:∀{l m:List Int},EC l->EC m->(∀x,x∈l↔x∈m)->l=m
 |[],[],_,_,_=>rfl|[],b::m,_,_,h=>by have:=(h b).2 aa4;cases this
 |a::l,[],_,_,h=>by have:=(h a).1 aa4;cases this
 |a::l,b::m,.cons h1 g,.cons f i,h=>by
  have d:a=b:=by
   have j:=(h a).1 aa4;have k:=(h b).2 aa4;rcases j0.1 j with e|e
   ·exact e
   ·rcases j0.1 k with e'|e'
    ·exact e'.symm
    ·have:=f a e;have:=h1 b e';omega
  subst d
  rw[EC.eq g i (λx=>by
   constructor
   ·intro c;rcases j0.1 ((h x).1 (O6 _ c))with e|e
    ·subst e;exact absurd (h1 x c) VW
    ·exact e
   ·intro c;rcases j0.1 ((h x).2 (O6 _ c))with e|e
    ·subst e;exact absurd (f x c) VW
    ·exact e)]
def yg(acc:List Int):List Int->List Int
 |[]=>acc|a::l=>yg (A3 a acc) l
def zQ:∀(l acc:List Int) (x:Int),x∈yg acc l↔x∈acc\/x∈l
 |[],acc,x=>by simp[yg]|a::l,acc,x=>by
  rw[yg,zQ l,yz];simp only[j0];constructor
  ·rintro((h|h)|h)
   ·exact .inr (.inl h)
   ·exact .inl h
   ·exact .inr (.inr h)
  ·rintro(h|h|h)
   ·exact .inl (.inr h)
   ·exact .inl (.inl h)
   ·exact .inr h
def zT:∀(l acc:List Int),EC acc->l.Nodup->(∀x∈l,x∉acc)->EC (yg acc l)
 |[],acc,h,_,_=>h|a::l,acc,h,hn,hd=>by
  rw[XX] at hn;refine zT l _ (Gz a acc (hd a aa4) h) hn.2 λx c b=>?_;rcases(yz a acc x).1 b with e|e
  ·subst e;exact hn.1 c
  ·exact hd x (by simp[c]) e
def wG(l:List Int):Bool:=decide l.Nodup
end Go.fB
