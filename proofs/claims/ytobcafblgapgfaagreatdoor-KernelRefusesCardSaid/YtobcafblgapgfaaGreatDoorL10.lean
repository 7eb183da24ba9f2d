/- Part of the proof of KernelRefuses: layer. -/
import Derived.Test.YtobcafblgapgfaaGreatDoorL9
set_option linter.all false
namespace Go.gV
open Go
def BR(n:Int):List Int->List Int
 |[]=>[n]|a::l=>if a>n then n::a::l else a::BR n l
inductive ES:List Int->Prop
 |nil:ES []|cons {a:Int} {l:List Int}:(∀b∈l,a<b)->ES l->ES (a::l)
def zA(n:Int):∀(l:List Int) (x:Int),x∈BR n l↔x=n\/x∈l
 |[],x=>by simp[BR]|a::l,x=>by
  unfold BR
  split
  ·simp
  ·simp only[l7,zA n l x];constructor
   ·rintro(h|h|h)
    ·exact .inr (.inl h)
    ·exact .inl h
    ·exact .inr (.inr h)
   ·rintro(h|h|h)
    ·exact .inr (.inl h)
    ·exact .inl h
    ·exact .inr (.inr h)
def Ho(n:Int):∀(l:List Int),n∉l->ES l->ES (BR n l)
 |[],_,_=>.cons (by simp) .nil|a::l,hn,.cons c d=>by
  simp only[l7,not_or] at hn;unfold BR
  split
  ·rename_i e;refine .cons ?_ (.cons c d);intro b hb;rcases l7.1 hb with rfl|hb
   ·exact e
   ·have:=c b hb;omega
  ·rename_i e;refine .cons ?_ (Ho n l hn.2 d);intro b hb;rcases(zA n l b).1 hb with rfl|hb
   ·omega
   ·exact c b hb
def ES.eq:∀{l m:List Int},ES l->ES m->(∀x,x∈l↔x∈m)->l=m
 |[],[],_,_,_=>rfl|[],b::m,_,_,h=>by have:=(h b).2 (by simp);cases this
 |a::l,[],_,_,h=>by have:=(h a).1 (by simp);cases this
 |a::l,b::m,.cons f i,.cons g j,h=>by
  have d:a=b:=by
   have k:=(h a).1 (by simp);have n:=(h b).2 (by simp);rcases l7.1 k with e|e
   ·exact e
   ·rcases l7.1 n with e'|e'
    ·exact e'.symm
    ·have:=g a e;have:=f b e';omega
  subst d
  rw[ES.eq i j (λx=>by
   constructor
   ·intro c;rcases l7.1 ((h x).1 (aaq _ c))with e|e
    ·subst e;exact absurd (f x c) (by omega)
    ·exact e
   ·intro c;rcases l7.1 ((h x).2 (aaq _ c))with e|e
    ·subst e;exact absurd (g x c) (by omega)
    ·exact e)]
def yM(acc:List Int):List Int->List Int
 |[]=>acc|a::l=>yM (BR a acc) l
def AA:∀(l acc:List Int) (x:Int),x∈yM acc l↔x∈acc\/x∈l
 |[],acc,x=>by simp[yM]|a::l,acc,x=>by
  rw[yM,AA l,zA];simp only[l7];constructor
  ·rintro((h|h)|h)
   ·exact .inr (.inl h)
   ·exact .inl h
   ·exact .inr (.inr h)
  ·rintro(h|h|h)
   ·exact .inl (.inr h)
   ·exact .inl (.inl h)
   ·exact .inr h
def AI:∀(l acc:List Int),ES acc->l.Nodup->(∀x∈l,x∉acc)->ES (yM acc l)
 |[],acc,h,_,_=>h|a::l,acc,h,hn,c=>by
  rw[Ya] at hn;refine AI l _ (Ho a acc (c a (by simp)) h) hn.2 λx d b=>?_;rcases(zA a acc x).1 b with e|e
  ·subst e;exact hn.1 d
  ·exact c x (by simp[d]) e
def xr(l:List Int):Bool:=decide l.Nodup
end Go.gV
