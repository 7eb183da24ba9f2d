/- Part of the proof of KernelTyped: layer. -/
import Derived.Test.YtobcafblgapgfaaGreatDoorL9
set_option linter.all false
namespace Go.hI
open Go
def BH(n:Int):List Int->List Int
 |[]=>[n]|a::l=>if a>n then n::a::l else a::BH n l
inductive CS:List Int->Prop
 |nil:CS []|cons {a:Int} {l:List Int}:(∀b∈l,a<b)->CS l->CS (a::l)
def z_(n:Int):∀(l:List Int) (x:Int),x∈BH n l↔x=n\/x∈l
 |[],x=>by simp[BH]|a::l,x=>by
  unfold BH
  split
  ·simp
  ·simp only[ma,z_ n l x];constructor
   ·rintro(h|h|h)
    ·exact .inr (.inl h)
    ·exact .inl h
    ·exact .inr (.inr h)
   ·rintro(h|h|h)
    ·exact .inr (.inl h)
    ·exact .inl h
    ·exact .inr (.inr h)
def FW(n:Int):∀(l:List Int),n∉l->CS l->CS (BH n l)
 |[],_,_=>.cons (by simp) .nil|a::l,hn,.cons c d=>by
  simp only[ma,not_or] at hn;unfold BH
  split
  ·rename_i e;refine .cons ?_ (.cons c d);intro b hb;rcases ma.1 hb with rfl|hb
   ·exact e
   ·have:=c b hb;omega
  ·rename_i e;refine .cons ?_ (FW n l hn.2 d);intro b hb;rcases(z_ n l b).1 hb with rfl|hb
   ·omega
   ·exact c b hb
def CS.eq:∀{l m:List Int},CS l->CS m->(∀x,x∈l↔x∈m)->l=m
 |[],[],_,_,_=>rfl|[],b::m,_,_,h=>by have:=(h b).2 (by simp);cases this
 |a::l,[],_,_,h=>by have:=(h a).1 (by simp);cases this
 |a::l,b::m,.cons f i,.cons g j,h=>by
  have d:a=b:=by
   have k:=(h a).1 (by simp);have n:=(h b).2 (by simp);rcases ma.1 k with e|e
   ·exact e
   ·rcases ma.1 n with e'|e'
    ·exact e'.symm
    ·have:=g a e;have:=f b e';omega
  subst d
  rw[CS.eq i j (λx=>by
   constructor
   ·intro c;rcases ma.1 ((h x).1 (PT _ c))with e|e
    ·subst e;exact absurd (f x c) (by omega)
    ·exact e
   ·intro c;rcases ma.1 ((h x).2 (PT _ c))with e|e
    ·subst e;exact absurd (g x c) (by omega)
    ·exact e)]
def xW(acc:List Int):List Int->List Int
 |[]=>acc|a::l=>xW (BH a acc) l
theorem xM:∀(l acc:List Int) (x:Int),x∈xW acc l↔x∈acc\/x∈l
 |[],acc,x=>by simp[xW]|a::l,acc,x=>by
  rw[xW,xM l,z_];simp only[ma];constructor
  ·rintro((h|h)|h)
   ·exact .inr (.inl h)
   ·exact .inl h
   ·exact .inr (.inr h)
  ·rintro(h|h|h)
   ·exact .inl (.inr h)
   ·exact .inl (.inl h)
   ·exact .inr h
def Aq:∀(l acc:List Int),CS acc->l.Nodup->(∀x∈l,x∉acc)->CS (xW acc l)
 |[],acc,h,_,_=>h|a::l,acc,h,hn,c=>by
  rw[V'] at hn;refine Aq l _ (FW a acc (c a (by simp)) h) hn.2 λx d b=>?_;rcases(z_ a acc x).1 b with e|e
  ·subst e;exact hn.1 d
  ·exact c x (by simp[d]) e
def tk(l:List Int):Bool:=decide l.Nodup
end Go.hI
