/- Part of the proof of TranslateWitness: layer. -/
import Derived.Test.YtffcgfpaakhbjaaGreatDoorL10
set_option linter.all false
namespace Go.dF
open Go
def zk(n:Int):List Int->List Int
 |[]=>[n]|a::l=>if a>n then n::a::l else a::zk n l
inductive Dz:List Int->Prop
 |nil:Dz []|cons {a:Int} {l:List Int}:(∀b∈l,a<b)->Dz l->Dz (a::l)
def xR(n:Int):∀(l:List Int) (x:Int),x∈zk n l↔x=n\/x∈l
 |[],x=>by simp[zk]|a::l,x=>by
  unfold zk
  split
  ·simp
  ·simp only[jA,xR n l x];constructor
   ·rintro(h|h|h)
    ·exact .inr (.inl h)
    ·exact .inl h
    ·exact .inr (.inr h)
   ·rintro(h|h|h)
    ·exact .inr (.inl h)
    ·exact .inl h
    ·exact .inr (.inr h)
def ET(n:Int):∀(l:List Int),n∉l->Dz l->Dz (zk n l)
 |[],_,_=>.cons th .nil|a::l,hn,.cons c d=>by
  simp only[jA,not_or] at hn;unfold zk
  split
  ·rename_i e;refine .cons ?_ (.cons c d);intro b hb;rcases jA.1 hb with rfl|hb
   ·exact e
   ·have:=c b hb;omega
  ·rename_i e;refine .cons ?_ (ET n l hn.2 d);intro b hb;rcases(xR n l b).1 hb with rfl|hb
   ·omega
   ·exact c b hb
def Dz.eq:∀{l m:List Int},Dz l->Dz m->(∀x,x∈l↔x∈m)->l=m
 |[],[],_,_,_=>rfl|[],b::m,_,_,h=>by have:=(h b).2 th;cases this
 |a::l,[],_,_,h=>by have:=(h a).1 th;cases this
 |a::l,b::m,.cons f i,.cons g j,h=>by
  have d:a=b:=by
   have k:=(h a).1 th;have n:=(h b).2 th;rcases jA.1 k with e|e
   ·exact e
   ·rcases jA.1 n with e'|e'
    ·exact e'.symm
    ·have:=g a e;have:=f b e';omega
  subst d
  rw[Dz.eq i j (λx=>by
   constructor
   ·intro c;rcases jA.1 ((h x).1 (Yr _ c))with e|e
    ·subst e;exact absurd (f x c) cw
    ·exact e
   ·intro c;rcases jA.1 ((h x).2 (Yr _ c))with e|e
    ·subst e;exact absurd (g x c) cw
    ·exact e)]
def wM(acc:List Int):List Int->List Int
 |[]=>acc|a::l=>wM (zk a acc) l
def yf:∀(l acc:List Int) (x:Int),x∈wM acc l↔x∈acc\/x∈l
 |[],acc,x=>by simp[wM]|a::l,acc,x=>by
  rw[wM,yf l,xR];simp only[jA];constructor
  ·rintro((h|h)|h)
   ·exact .inr (.inl h)
   ·exact .inl h
   ·exact .inr (.inr h)
  ·rintro(h|h|h)
   ·exact .inl (.inr h)
   ·exact .inl (.inl h)
   ·exact .inr h
def yc:∀(l acc:List Int),Dz acc->l.Nodup->(∀x∈l,x∉acc)->Dz (wM acc l)
 |[],acc,h,_,_=>h|a::l,acc,h,hn,c=>by
  rw[Qc] at hn;refine yc l _ (ET a acc (c a th) h) hn.2 λx d b=>?_;rcases(xR a acc x).1 b with e|e
  ·subst e;exact hn.1 d
  ·exact c x (by simp[d]) e
def vi(l:List Int):Bool:=decide l.Nodup
end Go.dF
