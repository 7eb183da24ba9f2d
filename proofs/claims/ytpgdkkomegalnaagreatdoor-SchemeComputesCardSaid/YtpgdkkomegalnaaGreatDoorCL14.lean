/- Part of the proof of SchemeComputes: layer. -/
import Derived.Test.YtpgdkkomegalnaaGreatDoorCL13
set_option linter.all false
namespace Go.fF
open Go
def DW(n:Int):List Int->List Int
 |[]=>[n]|a::l=>if a>n then n::a::l else a::DW n l
inductive HT:List Int->Prop
 |nil:HT []|cons {a:Int} {l:List Int}:(∀b∈l,a<b)->HT l->HT (a::l)
def Bx(n:Int):∀(l:List Int) (x:Int),x∈DW n l↔x=n\/x∈l
 |[],x=>by simp[DW]|a::l,x=>by
  unfold DW
  split
  ·simp
  ·simp only[mb,Bx n l x];constructor
   ·rintro(h|h|h)
    ·exact .inr (.inl h)
    ·exact .inl h
    ·exact .inr (.inr h)
   ·rintro(h|h|h)
    ·exact .inr (.inl h)
    ·exact .inl h
    ·exact .inr (.inr h)
def Kq(n:Int):∀(l:List Int),n∉l->HT l->HT (DW n l)
 |[],_,_=>.cons aaA .nil|a::l,hn,.cons c d=>by
  simp only[mb,not_or] at hn;unfold DW
  split
  ·rename_i f;refine .cons ?_ (.cons c d);intro b hb;rcases mb.1 hb with rfl|hb
   ·exact f
   ·have:=c b hb;omega
  ·rename_i f;refine .cons ?_ (Kq n l hn.2 d);intro b hb;rcases(Bx n l b).1 hb with rfl|hb
   ·omega
   ·exact c b hb
def HT.eq:∀{l m:List Int},HT l->HT m->(∀x,x∈l↔x∈m)->l=m
 |[],[],_,_,_=>rfl|[],b::m,_,_,h=>by have:=(h b).2 aaA;cases this
 |a::l,[],_,_,h=>by have:=(h a).1 aaA;cases this
 |a::l,b::m,.cons f j,.cons i k,h=>by
  have d:a=b:=by
   have n:=(h a).1 aaA;have o:=(h b).2 aaA;rcases mb.1 n with e|e
   ·exact e
   ·rcases mb.1 o with e'|e'
    ·exact e'.symm
    ·have:=i a e;have:=f b e';omega
  subst d
  rw[HT.eq j k (λx=>by
   constructor
   ·intro c;rcases mb.1 ((h x).1 (aiI _ c))with e|e
    ·subst e;exact absurd (f x c) VW
    ·exact e
   ·intro c;rcases mb.1 ((h x).2 (aiI _ c))with e|e
    ·subst e;exact absurd (i x c) VW
    ·exact e)]
def Ah(acc:List Int):List Int->List Int
 |[]=>acc|a::l=>Ah (DW a acc) l
def Cb:∀(l acc:List Int) (x:Int),x∈Ah acc l↔x∈acc\/x∈l
 |[],acc,x=>by simp[Ah]|a::l,acc,x=>by
  rw[Ah,Cb l,Bx];simp only[mb];constructor
  ·rintro((h|h)|h)
   ·exact .inr (.inl h)
   ·exact .inl h
   ·exact .inr (.inr h)
  ·rintro(h|h|h)
   ·exact .inl (.inr h)
   ·exact .inl (.inl h)
   ·exact .inr h
def B5:∀(l acc:List Int),HT acc->l.Nodup->(∀x∈l,x∉acc)->HT (Ah acc l)
 |[],acc,h,_,_=>h|a::l,acc,h,hn,c=>by
  rw[Wq] at hn;refine B5 l _ (Kq a acc (c a aaA) h) hn.2 λx d b=>?_;rcases(Bx a acc x).1 b with e|e
  ·subst e;exact hn.1 d
  ·exact c x (by simp[d]) e
def yM(l:List Int):Bool:=decide l.Nodup
end Go.fF
