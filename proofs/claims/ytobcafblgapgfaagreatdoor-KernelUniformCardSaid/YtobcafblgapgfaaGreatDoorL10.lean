/- Part of the proof of KernelUniform: layer. -/
import Derived.Test.YtobcafblgapgfaaGreatDoorL9
set_option linter.all false
namespace Go.hJ
open Go
def A6(n:Int):List Int->List Int
 |[]=>[n]|a::l=>if a>n then n::a::l else a::A6 n l
inductive Bk:List Int->Prop
 |nil:Bk []|cons {a:Int} {l:List Int}:(∀b∈l,a<b)->Bk l->Bk (a::l)
def zc(n:Int):∀(l:List Int) (x:Int),x∈A6 n l↔x=n\/x∈l
 |[],x=>by simp[A6]|a::l,x=>by
  unfold A6
  split
  ·simp
  ·simp only[lF,zc n l x];constructor
   ·rintro(h|h|h)
    ·exact .inr (.inl h)
    ·exact .inl h
    ·exact .inr (.inr h)
   ·rintro(h|h|h)
    ·exact .inr (.inl h)
    ·exact .inl h
    ·exact .inr (.inr h)
def Gu(n:Int):∀(l:List Int),n∉l->Bk l->Bk (A6 n l)
 |[],_,_=>.cons (by simp) .nil|a::l,hn,.cons c d=>by
  simp only[lF,not_or] at hn;unfold A6
  split
  ·rename_i e;refine .cons ?_ (.cons c d);intro b hb;rcases lF.1 hb with rfl|hb
   ·exact e
   ·have:=c b hb;omega
  ·rename_i e;refine .cons ?_ (Gu n l hn.2 d);intro b hb;rcases(zc n l b).1 hb with rfl|hb
   ·omega
   ·exact c b hb
def Bk.eq:∀{l m:List Int},Bk l->Bk m->(∀x,x∈l↔x∈m)->l=m
 |[],[],_,_,_=>rfl|[],b::m,_,_,h=>by have:=(h b).2 (by simp);cases this
 |a::l,[],_,_,h=>by have:=(h a).1 (by simp);cases this
 |a::l,b::m,.cons f i,.cons g j,h=>by
  have d:a=b:=by
   have k:=(h a).1 (by simp);have n:=(h b).2 (by simp);rcases lF.1 k with e|e
   ·exact e
   ·rcases lF.1 n with e'|e'
    ·exact e'.symm
    ·have:=g a e;have:=f b e';omega
  subst d
  rw[Bk.eq i j (λx=>by
   constructor
   ·intro c;rcases lF.1 ((h x).1 (YJ _ c))with e|e
    ·subst e;exact absurd (f x c) (by omega)
    ·exact e
   ·intro c;rcases lF.1 ((h x).2 (YJ _ c))with e|e
    ·subst e;exact absurd (g x c) (by omega)
    ·exact e)]
def yj(acc:List Int):List Int->List Int
 |[]=>acc|a::l=>yj (A6 a acc) l
def zO:∀(l acc:List Int) (x:Int),x∈yj acc l↔x∈acc\/x∈l
 |[],acc,x=>by simp[yj]|a::l,acc,x=>by
  rw[yj,zO l,zc];simp only[lF];constructor
  ·rintro((h|h)|h)
   ·exact .inr (.inl h)
   ·exact .inl h
   ·exact .inr (.inr h)
  ·rintro(h|h|h)
   ·exact .inl (.inr h)
   ·exact .inl (.inl h)
   ·exact .inr h
def zI:∀(l acc:List Int),Bk acc->l.Nodup->(∀x∈l,x∉acc)->Bk (yj acc l)
 |[],acc,h,_,_=>h|a::l,acc,h,hn,c=>by
  rw[Su] at hn;refine zI l _ (Gu a acc (c a (by simp)) h) hn.2 λx d b=>?_;rcases(zc a acc x).1 b with e|e
  ·subst e;exact hn.1 d
  ·exact c x (by simp[d]) e
def xg(l:List Int):Bool:=decide l.Nodup
end Go.hJ
