/- Part of the proof of KernelChoice: layer. -/
import Derived.Test.YtobcafblgapgfaaGreatDoorL9
set_option linter.all false
namespace Go.fg
open Go
def Gs(n:Int):List Int->List Int
 |[]=>[n]|a::l=>if a>n then n::a::l else a::Gs n l
inductive Ec:List Int->Prop
 |nil:Ec []|cons {a:Int} {l:List Int}:(∀b∈l,a<b)->Ec l->Ec (a::l)
def zz(n:Int):∀(l:List Int) (x:Int),x∈Gs n l↔x=n\/x∈l
 |[],x=>by simp[Gs]|a::l,x=>by
  unfold Gs
  split
  ·simp
  ·simp only[jz,zz n l x];constructor
   ·rintro(h|h|h)
    ·exact .inr (.inl h)
    ·exact .inl h
    ·exact .inr (.inr h)
   ·rintro(h|h|h)
    ·exact .inr (.inl h)
    ·exact .inl h
    ·exact .inr (.inr h)
def Ig(n:Int):∀(l:List Int),n∉l->Ec l->Ec (Gs n l)
 |[],_,_=>.cons (by simp) .nil|a::l,hn,.cons c d=>by
  simp only[jz,not_or] at hn;unfold Gs
  split
  ·rename_i e;refine .cons ?_ (.cons c d);intro b hb;rcases jz.1 hb with rfl|hb
   ·exact e
   ·have:=c b hb;omega
  ·rename_i e;refine .cons ?_ (Ig n l hn.2 d);intro b hb;rcases(zz n l b).1 hb with rfl|hb
   ·omega
   ·exact c b hb
def Ec.eq:∀{l m:List Int},Ec l->Ec m->(∀x,x∈l↔x∈m)->l=m
 |[],[],_,_,_=>rfl|[],b::m,_,_,h=>by have:=(h b).2 (by simp);cases this
 |a::l,[],_,_,h=>by have:=(h a).1 (by simp);cases this
 |a::l,b::m,.cons f i,.cons g j,h=>by
  have d:a=b:=by
   have k:=(h a).1 (by simp);have n:=(h b).2 (by simp);rcases jz.1 k with e|e
   ·exact e
   ·rcases jz.1 n with e'|e'
    ·exact e'.symm
    ·have:=g a e;have:=f b e';omega
  subst d
  rw[Ec.eq i j (λx=>by
   constructor
   ·intro c;rcases jz.1 ((h x).1 (Mw _ c))with e|e
    ·subst e;exact absurd (f x c) (by omega)
    ·exact e
   ·intro c;rcases jz.1 ((h x).2 (Mw _ c))with e|e
    ·subst e;exact absurd (g x c) (by omega)
    ·exact e)]
def vE(acc:List Int):List Int->List Int
 |[]=>acc|a::l=>vE (Gs a acc) l
def zX:∀(l acc:List Int) (x:Int),x∈vE acc l↔x∈acc\/x∈l
 |[],acc,x=>by simp[vE]|a::l,acc,x=>by
  rw[vE,zX l,zz];simp only[jz];constructor
  ·rintro((h|h)|h)
   ·exact .inr (.inl h)
   ·exact .inl h
   ·exact .inr (.inr h)
  ·rintro(h|h|h)
   ·exact .inl (.inr h)
   ·exact .inl (.inl h)
   ·exact .inr h
def AE:∀(l acc:List Int),Ec acc->l.Nodup->(∀x∈l,x∉acc)->Ec (vE acc l)
 |[],acc,h,_,_=>h|a::l,acc,h,hn,c=>by
  rw[SS] at hn;refine AE l _ (Ig a acc (c a (by simp)) h) hn.2 λx d b=>?_;rcases(zz a acc x).1 b with e|e
  ·subst e;exact hn.1 d
  ·exact c x (by simp[d]) e
def wO(l:List Int):Bool:=decide l.Nodup
end Go.fg
