/- Part of the proof of KernelChoice: layer. -/
import Derived.Orders
import Derived.Below
import Derived.Laws.AppendOwn
import Derived.Laws.Cells
import Derived.Laws.CopyRow
import Derived.Laws.Small
import Derived.Laws.Pointers
import Derived.WalkSpells
import Derived.Test.YtobcafblgapgfaaGreatDoorB1
set_option linter.all false
namespace Go.ky
open Go
inductive Tag where
 |eh|full|loc (k g:Nat)
inductive AV where
 |undef|sc (v:Value)|kN (x:AV)|dc (b g off:Nat)|ei (o off:Nat)|slice (tag:Tag) (l:List AV)|agg (cs:List AV)|tuple (vs:List AV)|func (fn:Fn) (first cap:List AV)
 |iface (t:TypeId) (x:AV)|wG (b g len cap:Nat)|oa (o:Nat)|sC (ks:List Value) (xs:List AV)|u' (o since:Nat) (seen:List Nat)|yx (o off len cap:Nat)
instance:Inhabited AV:=⟨.undef⟩
def AV.cells:AV->List AV
 |.agg cs=>cs|x=>[x]
def AV.fA:AV->Bool
 |.agg _=>false|.tuple _=>false|.sC _ _=>false|.u' _ _ _=>false|_=>true
def xb:Value->Bool
 |.bool _=>true|.int _ _=>true|.float _ _=>true|.string _=>true|.pointer none=>true|.map none=>true|.nilFunc=>true|.nilIface=>true|_=>false
inductive gi {α β:Type} (R:α->β->Prop):List α->List β->Prop
 |nil:gi R [] []|cons {a b as bs}:R a b->gi R as bs->gi R (a::as) (b::bs)
def gi.length{α β:Type}{R:α->β->Prop}{as:List α}{bs:List β}(h:gi R as bs):as.length=bs.length:=by
 induction h with
 |nil=>rfl|cons _ _ a=>simp[a]
def gi.mono{α β:Type}{R S:α->β->Prop}{as:List α}{bs:List β}(h:gi R as bs)(hs:∀a b,a∈as->R a b->S a b):gi S as bs:=by
 induction h with
 |nil=>exact .nil|cons c _ d=>exact .cons (hs _ _ (by simp) c) (d λa b e=>hs a b (by simp[e]))
def gi.append{α β:Type}{R:α->β->Prop}{as a:List α}{bs b:List β}(h:gi R as bs)(c:gi R a b):gi R (as++a) (bs++b):=by
 induction h with
 |nil=>exact c|cons d _ e=>exact .cons d e
def gi.take{α β:Type}{R:α->β->Prop}{as:List α}{bs:List β}(h:gi R as bs)(n:Nat):gi R (as.take n) (bs.take n):=by
 induction h generalizing n with
 |nil=>simp;exact .nil|cons a _ b=>cases n with
  |zero=>exact .nil|succ n=>exact .cons a (b n)
def gi.drop{α β:Type}{R:α->β->Prop}{as:List α}{bs:List β}(h:gi R as bs)(n:Nat):gi R (as.drop n) (bs.drop n):=by
 induction h generalizing n with
 |nil=>simp;exact .nil|cons a b c=>cases n with
  |zero=>exact .cons a b|succ n=>exact c n
def gi.get{α β:Type}{R:α->β->Prop}{as:List α}{bs:List β}(h:gi R as bs){i:Nat}{a:α}(c:as[i]?=some a):∃b,bs[i]?=some b/\R a b:=by
 induction h generalizing i with
 |nil=>simp at c
 |cons d _ e=>cases i with
  |zero=>simp at c;subst c;exact⟨_,rfl,d⟩
  |succ i=>simp at c;simpa using e c
def gi.mem{α β:Type}{R:α->β->Prop}{as:List α}{bs:List β}(h:gi R as bs){b:β}(hb:b∈bs):∃a∈as,R a b:=by
 induction h with
 |nil=>simp at hb
 |cons c _ d=>
  rcases jz.1 hb with rfl|hb
  ·exact⟨_,by simp,c⟩
  ·obtain⟨a,e,f⟩:=d hb;exact⟨a,by simp[e],f⟩
def gi.tR{α α' β:Type}{R:α->β->Prop}{S:α'->β->Prop}{as:List α}{bs:List β}(f:α->α')(h:gi R as bs)(hs:∀a b,a∈as->R a b->S (f a) b):gi S (as.map f) bs:=by
 induction h with
 |nil=>exact .nil|cons c _ d=>exact .cons (hs _ _ (by simp) c) (d λa b e=>hs a b (by simp[e]))
abbrev jH:=Nat->Nat->Option Value
def jH.has(F:jH)(b o:Nat)(vs:List Value):Prop:=∀i v,vs[i]?=some v->F b (o+i)=some v
mutual
inductive fB (F:jH) (G:Nat->Nat) (n:Nat):AV->Value->Prop
 |undef {v}:v.oneCell'=true->fB F G n .undef v|sc {v}:xb v=true->fB F G n (.sc v) v|kN {x b o vs}:fC F G n x.cells vs->F.has b o vs->(∀c∈x.cells,c.fA=true)->fB F G n (.kN x) (.pointer (some ⟨b,o,none⟩))|ei {o off}:o<n->fB F G n (.ei o off) (.pointer (some ⟨G o,off,none⟩))|oa {o}:o<n->fB F G n (.oa o) (.map (some (G o)))|yx {o off len cap}:o<n->len<=cap->cap<=maxLen->fB F G n (.yx o off len cap) (.slice (some ⟨G o,off,none⟩) len cap)|slice {tag l vs b o base cap sz}:fC F G n (l.flatMap AV.cells) vs->F.has b o vs->(l≠[]->base=some ⟨b,o,none⟩)->(∀x∈l,x.cells.length=sz)->(∀c∈l.flatMap AV.cells,c.fA=true)->l.length<=cap->cap<=maxLen->tag=.eh\/tag=.full/\cap=l.length->fB F G n (.slice tag l) (.slice base l.length cap)|agg {cs vs}:fC F G n cs vs->(∀c∈cs,c.fA=true)->fB F G n (.agg cs) (.agg vs.toArray)|tuple {cs vs}:fC F G n cs vs->fB F G n (.tuple cs) (.tuple vs.toArray)|func {fn f c vf vc}:fC F G n f vf->fC F G n c vc->fB F G n (.func fn f c) (.func fn vf.toArray vc.toArray)|iface {t x v}:fB F G n x v->fB F G n (.iface t x) (.iface t v)
inductive fC (F:jH) (G:Nat->Nat) (n:Nat):List AV->List Value->Prop
 |nil:fC F G n [] []|cons {x v xs vs}:fB F G n x v->fC F G n xs vs->fC F G n (x::xs) (v::vs)
end
section
variable{F F':jH} {G G':Nat->Nat} {n n':Nat}
def fC.rP{xs vs}(h:fC F G n xs vs):gi (fB F G n) xs vs:=by
 induction xs generalizing vs with
 |nil=>cases h;exact .nil
 |cons x xs a=>cases h with|cons b c=>exact .cons b (a c)
def fC.nJ{xs vs}(h:gi (fB F G n) xs vs):fC F G n xs vs:=by
 induction h with
 |nil=>exact .nil|cons a _ b=>exact .cons a b
structure Ca (F F':jH) (G G':Nat->Nat) (n n':Nat):Prop where
 mF:∀b o v,F b o=some v->F' b o=some v
 mn:n<=n'
 mG:∀o,o<n->G' o=G o
def Ca.refl:Ca F F G G n n:=⟨λ_ _ _ h=>h,hO _,λ_ _=>rfl⟩
def jH.has.grow{b o vs}(h:F.has b o vs)(hg:Ca F F' G G' n n'):F'.has b o vs:=λi v a=>hg.mF _ _ _ (h i v a)
mutual
def fB.grow(hg:Ca F F' G G' n n'):∀{x v},fB F G n x v->fB F' G' n' x v
 |_,_,.undef h=>.undef h|_,_,.sc h=>.sc h|_,_,.kN a b c=>.kN (a.grow hg) (b.grow hg) c|_,_,.ei (o:=o) (off:=off) h=>by
  rw[<-hg.mG o h];exact .ei (ML h hg.mn)
 |_,_,.oa (o:=o) h=>by
  rw[<-hg.mG o h];exact .oa (ML h hg.mn)
 |_,_,.yx (o:=o) h b c=>by
  rw[<-hg.mG o h];exact .yx (ML h hg.mn) b c
 |_,_,.slice a b c d e f g i=>.slice (a.grow hg) (b.grow hg) c d e f g i|_,_,.agg a b=>.agg (a.grow hg) b|_,_,.tuple a=>.tuple (a.grow hg)|_,_,.func a b=>.func (a.grow hg) (b.grow hg)|_,_,.iface a=>.iface (a.grow hg)
def fC.grow(hg:Ca F F' G G' n n'):∀{xs vs},fC F G n xs vs->fC F' G' n' xs vs
 |_,_,.nil=>.nil|_,_,.cons a b=>.cons (a.grow hg) (b.grow hg)
end
def fB.Gg{x v}(h:fB F G n x v)(a:x.fA=true):v.oneCell'=true:=by
 cases h with
 |undef h=>exact h|sc h=>revert h;cases v<;>simp[xb,Value.oneCell']
 |agg b c=>simp[AV.fA] at a
 |tuple b=>simp[AV.fA] at a
 |_=>rfl
def fB.cells{x v}(h:fB F G n x v)(d:∀vs,x≠ .tuple vs):fC F G n x.cells v.cells.toList:=by
 cases h with
 |undef h=>cases v<;>first|exact .cons (.undef h) .nil|(simp[Value.oneCell'] at h;done)
 |sc h=>cases v<;>first|exact .cons (.sc h) .nil|(simp[xb] at h;done)
 |kN a b c=>exact .cons (.kN a b c) .nil|ei a=>exact .cons (.ei a) .nil|oa a=>exact .cons (.oa a) .nil|yx a b c=>exact .cons (.yx a b c) .nil|slice a b c e f g i j=>exact .cons (.slice a b c e f g i j) .nil|agg a b=>exact a|tuple a=>exact absurd rfl (d _)|func a b=>exact .cons (.func a b) .nil|iface a=>exact .cons (.iface a) .nil
end
structure Maps where
 G:Nat->Nat
 n:Nat
 L:Nat->Nat->Nat
 lg:Nat->Nat
 A:Nat->Nat->Option (Nat×Nat×Nat)
 ag:Nat->Nat
def qm(ρ:Maps)(k g:Nat)(l:List AV)(base:Option Addr)(cap:Nat):Prop:=
 match ρ.A k g with
 |none=>cap=l.length|some (b,c,sz)=>base=some ⟨b,0,none⟩/\cap=c/\∀x∈l,x.cells.length=sz
inductive iR (F:jH) (ρ:Maps):AV->Value->Prop
 |p {x v}:fB F ρ.G ρ.n x v->iR F ρ x v|dc {b g off}:g<=ρ.lg b->iR F ρ (.dc b g off) (.pointer (some ⟨ρ.L b g,off,none⟩))|loc {k g l base cap}:fB F ρ.G ρ.n (.slice .eh l) (.slice base l.length cap)->g<=ρ.ag k->qm ρ k g l base cap->iR F ρ (.slice (.loc k g) l) (.slice base l.length cap)|wG {b g len cap}:g<=ρ.lg b->len<=cap->cap<=maxLen->iR F ρ (.wG b g len cap) (.slice (some ⟨ρ.L b g,0,none⟩) len cap)
inductive fl (F:jH) (ρ:Maps):AV->Value->Prop
 |cell {x v}:iR F ρ x v->fl F ρ x v|agg {cs vs}:gi (iR F ρ) cs vs->(∀c∈cs,c.fA=true)->fl F ρ (.agg cs) (.agg vs.toArray)
structure ta (F F':jH) (ρ ρ':Maps):Prop where
 g:Ca F F' ρ.G ρ'.G ρ.n ρ'.n
 lg:∀b,ρ.lg b<=ρ'.lg b
 L:∀b g,g<=ρ.lg b->ρ'.L b g=ρ.L b g
 ag:∀k,ρ.ag k<=ρ'.ag k
 A:∀k g,g<=ρ.ag k->ρ'.A k g=ρ.A k g
section
variable{F F':jH} {ρ ρ':Maps}
def iR.grow(hg:ta F F' ρ ρ'){x v}(h:iR F ρ x v):iR F' ρ' x v:=by
 cases h with
 |p h=>exact .p (h.grow hg.g)|dc h=>
  rename_i b g off;rw[<-hg.L b g h];exact .dc (Av h (hg.lg b))
 |loc d a c=>
  refine .loc (d.grow hg.g) (Av a (hg.ag _)) ?_;unfold qm;rw[hg.A _ _ a];exact c
 |wG h a c=>
  rename_i b g len cap;rw[<-hg.L b g h];exact .wG (Av h (hg.lg b)) a c
def fl.grow(hg:ta F F' ρ ρ'){x v}(h:fl F ρ x v):fl F' ρ' x v:=by
 cases h with
 |cell h=>exact .cell (h.grow hg)|agg a b=>exact .agg (a.mono λ_ _ _ h=>h.grow hg) b
def fl.p{x v}(h:fB F ρ.G ρ.n x v):fl F ρ x v:=.cell (.p h)
end
def AV.jU:AV->AV
 |.slice _ l=>.slice .eh l|.dc _ _ _=>.undef|.wG _ _ _ _=>.undef|x=>x
def AV.norm:AV->AV
 |.agg cs=>.agg (cs.map AV.jU)|x=>x.jU
section
variable{F F':jH} {ρ ρ':Maps}
def fB.eh{G:Nat->Nat}{n:Nat}{tag l v}(h:fB F G n (.slice tag l) v):fB F G n (.slice .eh l) v:=by
 cases h with
 |slice a b c d e f g i=>exact .slice a b c d e f g (.inl rfl)
def fB.jU{G:Nat->Nat}{n:Nat}{x v}(h:fB F G n x v):fB F G n x.jU v:=by
 cases x with
 |slice tag l=>exact h.eh|dc b g off=>cases h
 |wG b g len cap=>cases h
 |_=>exact h
def iR.jU{x v}(h:iR F ρ x v):fB F ρ.G ρ.n x.jU v:=by
 cases h with
 |p h=>exact h.jU|dc h=>exact .undef rfl|loc a b c=>exact a|wG a b c=>exact .undef rfl
def AV.Bm(x:AV):x.jU.fA=x.fA:=by cases x<;>rfl
def fl.norm{x v}(h:fl F ρ x v):fB F ρ.G ρ.n x.norm v:=by
 have d:∀{cs:List AV} {vs:List Value},gi (iR F ρ) cs vs->(∀c∈cs,c.fA=true)->fB F ρ.G ρ.n (AV.agg cs).norm (.agg vs.toArray):=by
  intro cs vs e f;refine .agg (fC.nJ (e.tR AV.jU λa b _ h=>h.jU)) ?_;intro c g;obtain⟨a,i,rfl⟩:=mO.1 g;rw[AV.Bm];exact f a i
 cases h with
 |agg e f=>exact d e f|cell h=>
  cases x with
  |agg cs=>
   cases h with
   |p h=>
    cases h with
    |agg e f=>exact d (e.rP.mono λ_ _ _ h=>.p h) f
  |_=>exact h.jU
def fl.cells{x v}(h:fl F ρ x v)(d:∀vs,x≠ .tuple vs):gi (iR F ρ) x.cells v.cells.toList:=by
 cases h with
 |agg a b=>exact a|cell h=>
  cases h with
  |p h=>exact(h.cells d).rP.mono λ_ _ _ h=>.p h|dc h=>exact .cons (.dc h) .nil|loc a b c=>exact .cons (.loc a b c) .nil|wG a b c=>exact .cons (.wG a b c) .nil
def iR.Gg{x v}(h:iR F ρ x v)(a:x.fA=true):v.oneCell'=true:=by
 cases h with
 |p h=>exact h.Gg a|dc h=>rfl|loc b c d=>rfl|wG b c d=>rfl
def fl.tk{x v}(h:fl F ρ x v)(d:∀vs,x≠ .tuple vs):∀c∈x.cells,c.fA=true:=by
 cases h with
 |agg b a=>exact a|cell h=>
  cases h with
  |p h=>
   cases h with
   |agg b a=>exact a|tuple b=>exact absurd rfl (d _)|_=>simp[AV.cells,AV.fA]
  |dc h=>simp[AV.cells,AV.fA]|loc b a e=>simp[AV.cells,AV.fA]|wG b a e=>simp[AV.cells,AV.fA]
end
end Go.ky
namespace Go.ky
open Go
abbrev cV:=List (List AV)
abbrev dA:=Nat->Option AV
structure Fr where
 env:Nat->AV
 box:Nat->Option (List AV)
 gen:Nat->Nat
 qS:Nat->Option Nat
 ea:Nat->Nat
def fF{α:Type}(f:Nat->α)(i:Nat)(x:α):Nat->α:=λj=>if j=i then x else f j
def Fr.put(fr:Fr)(d:Option Nat)(x:AV):Fr:=
 match d with
 |some d=>{fr with env:=fF fr.env d x}|none=>fr
section
variable(P:Program)
def eB(t:TypeId):Option (Bool×Nat):=
 match P.underlying t,P.info? t with
 |some d,some i=>some (match d with|.struct _|.array _ _=>true|_=>false,i.size)
 |_,_=>none
def zeroOf(t:TypeId):Option Value:=(P.info? t).bind (·.zero)
def dO(t i:Nat):Option (Nat×TypeId):=
 match P.underlying t with
 |some (.struct a)=>(a[i]?).map λf=>(f.offset,f.type)|_=>none
def H3(t:TypeId):Option (Nat×TypeId):=
 match P.underlying t with
 |some (.array n e)=>some (n,e)|_=>none
def lO(t:TypeId)(cs:List AV)(off:Nat):Option AV:=
 match eB P t with
 |some (true,n)=>if off+n<=cs.length then some (.agg ((cs.drop off).take n))else none|some (false,_)=>cs[off]?|none=>none
def oz(t:TypeId)(x:AV):Bool:=
 match eB P t,x with
 |some (true,n),.agg cs=>cs.length==n|some (false,_),.agg _=>false|some (false,_),.tuple _=>false|some (false,_),.sC _ _=>false|some (false,_),.u' _ _ _=>false|some (false,_),_=>true|_,_=>false
end
def setCells(cs:List AV)(off:Nat)(new:List AV):List AV:=cs.take off++new++cs.drop (off+new.length)
def oc:Value->AV
 |.slice none 0 0=>.slice .full []|.func fn f c=>if f.size=0/\c.size=0 then .func fn [] [] else .undef|.agg _=>.undef|.tuple _=>.undef|v=>if xb v then .sc v else .undef
def ofValue:Value->AV
 |.agg cs=>.agg (cs.toList.map oc)|.tuple cs=>.tuple (cs.toList.map oc)|v=>oc v
def wP:Value->Bool
 |.agg cs=>cs.all (·.oneCell')|.tuple cs=>cs.all (·.oneCell')|_=>true
def uE(v:Value):(oc v).fA=true:=by
 unfold oc
 split<;>first|rfl|(split<;>rfl)
def A2(F:jH)(G:Nat->Nat)(n:Nat)(v:Value)(h:v.oneCell'=true):fB F G n (oc v) v:=by
 unfold oc
 split
 ·exact .slice (l:=[]) (vs:=[]) (b:=0) (o:=0) (sz:=0) .nil (λ_ _ h=>by simp at h) (by simp) (by simp) (by simp) (by simp) (by simp[maxLen]) (.inr ⟨rfl,rfl⟩)
 ·rename_i fn f c
  split
  ·rename_i hs;obtain⟨a,d⟩:=hs;have e:f=#[]:=P3 a;have g:c=#[]:=P3 d;subst e;subst g;exact .func (vf:=[]) (vc:=[]) .nil .nil
  ·exact .undef rfl
 ·simp[Value.oneCell'] at h
 ·simp[Value.oneCell'] at h
 ·split
  ·exact .sc (by assumption)
  ·exact .undef h
def oo(F:jH)(G:Nat->Nat)(n:Nat):∀(vs:List Value),(∀v∈vs,v.oneCell'=true)->fC F G n (vs.map oc) vs
 |[],_=>.nil|v::vs,h=>.cons (A2 F G n v (h v (by simp))) (oo F G n vs λu hu=>h u (by simp[hu]))
def Bn{v:Value}(h:v.oneCell'=true):ofValue v=oc v:=by
 cases v<;>first|rfl|(simp[Value.oneCell'] at h)
def zb(F:jH)(G:Nat->Nat)(n:Nat)(v:Value)(h:wP v=true):fB F G n (ofValue v) v:=by
 cases v with
 |agg cs=>
  have b:∀v∈cs.toList,v.oneCell'=true:=λv d=>by
   have e:cs.all (·.oneCell')=true:=h
   exact Fh.1 e v (uX.1 d)
  exact .agg (vs:=cs.toList) (oo F G n cs.toList b) (by
   intro c f;obtain⟨a,_,rfl⟩:=mO.1 f
   exact uE a)
 |tuple cs=>
  have b:∀v∈cs.toList,v.oneCell'=true:=λv d=>by
   have e:cs.all (·.oneCell')=true:=h
   exact Fh.1 e v (uX.1 d)
  exact .tuple (vs:=cs.toList) (oo F G n cs.toList b)
 |_=>(rw[Bn rfl];exact A2 F G n _ rfl)
section
variable(T:dA) (fr:Fr)
def ev:Operand->AV
 |.tmp t=>fr.env t|.const v=>ofValue v|.global g=>match T g with|some x=>.kN x|none=>.undef
 |.func f=>.func (.func f) [] []
def ic:Operand->Bool
 |.const v=>wP v|_=>true
end
def qu(F:jH)(ρ:Maps)(fr:Fr)(a:Act):Prop:=∀t,fl F ρ (fr.env t) (a.tmps.getD t undef)
def uP(T:dA)(F:jH)(ρ:Maps):Prop:=∀g x,T g=some x->fB F ρ.G ρ.n (.kN x) (.pointer (some ⟨g,0,none⟩))
def ft{T:dA}{fr:Fr}{F:jH}{ρ:Maps}{a:Act}(he:qu F ρ fr a)(b:uP T F ρ)(x:Operand)(c:ic x=true):fl F ρ (ev T fr x) (a.eval x):=by
 cases x with
 |tmp t=>exact he t|const v=>exact .p (zb _ _ _ v c)|global g=>
  show fl F ρ (match T g with|some x=>.kN x|none=>.undef) _;cases h:T g with
  |none=>exact .p (.undef rfl)|some x=>exact .p (b g x h)
 |func f=>exact .p (.func (vf:=[]) (vc:=[]) .nil .nil)
def n5(op:BinOp)(k:IntKind)(a b:Int):Option Value:=
 match op with
 |.add=>some (.int k (k.wrap (a+b)))|.sub=>some (.int k (k.wrap (a-b)))|.mul=>some (.int k (k.wrap (a*b)))|.quo=>if b=0 then none else some (.int k (k.wrap (a.tdiv b)))|.rem=>if b=0 then none else some (.int k (a.tmod b))|.and=>some (.int k (k.wrap (BitVec.ofInt k.bits a&&&BitVec.ofInt k.bits b).toNat))|.or=>some (.int k (k.wrap (BitVec.ofInt k.bits a|||BitVec.ofInt k.bits b).toNat))|.xor=>some (.int k (k.wrap (BitVec.ofInt k.bits a^^^BitVec.ofInt k.bits b).toNat))|.andNot=>some (.int k (k.wrap (BitVec.ofInt k.bits a&&&~~~BitVec.ofInt k.bits b).toNat))|.eql=>some (.bool (a==b))|.neq=>some (.bool (a !=b))|.lss=>some (.bool (a<b))|.leq=>some (.bool (a<=b))|.gtr=>some (.bool (a>b))|.geq=>some (.bool (a>=b))|_=>none
def Hp(op:BinOp)(x y:ByteArray):Option Value:=
 match op with
 |.add=>if((x.size+y.size:Nat):Int)>IntKind.i64.max then none else some (.string (x++y))|.eql=>some (.bool (x.toList==y.toList))|.neq=>some (.bool !(x.toList==y.toList))|.lss=>some (.bool (Op.bytesLess x.toList y.toList))|.leq=>some (.bool (Op.bytesLess x.toList y.toList||x.toList==y.toList))|.gtr=>some (.bool !(Op.bytesLess x.toList y.toList||x.toList==y.toList))|.geq=>some (.bool !(Op.bytesLess x.toList y.toList))|_=>none
def y':AV->Bool
 |.kN _|.dc _ _ _|.ei _ _=>true|_=>false
def pw(P:Program)(op:BinOp)(t:TypeId)(x y:AV):Option AV:=
 match op,x,y with
 |.shl,.sc (.int k a),.sc (.int _ b)=>if b<0 then none else some (.sc (.int k (k.wrap (a*2^min b.toNat k.bits))))|.shr,.sc (.int k a),.sc (.int _ b)=>if b<0 then none else some (.sc (.int k (a.fdiv (2^min b.toNat k.bits))))|op,.sc (.int k a),.sc (.int k' b)=>if k=k' then(n5 op k a b).map .sc else none|op,.sc (.string a),.sc (.string b)=>(Hp op a b).map .sc|.eql,.sc (.bool a),.sc (.bool b)=>match P.underlying t with|some .bool=>some (.sc (.bool (a==b)))|_=>none
 |.neq,.sc (.bool a),.sc (.bool b)=>match P.underlying t with|some .bool=>some (.sc (.bool (!(a==b))))|_=>none
 |.eql,x,.sc (.pointer none)=>match P.underlying t with
  |some (.pointer _)=>if y' x then some (.sc (.bool false))else(match x with|.sc (.pointer none)=>some (.sc (.bool true))|_=>none)
  |_=>none
 |.neq,x,.sc (.pointer none)=>match P.underlying t with
  |some (.pointer _)=>if y' x then some (.sc (.bool true))else(match x with|.sc (.pointer none)=>some (.sc (.bool false))|_=>none)
  |_=>none
 |.eql,.func _ _ _,.sc .nilFunc=>match P.underlying t with|some (.func ..)=>some (.sc (.bool false))|_=>none
 |.neq,.func _ _ _,.sc .nilFunc=>match P.underlying t with|some (.func ..)=>some (.sc (.bool true))|_=>none
 |.eql,.sc .nilFunc,.sc .nilFunc=>match P.underlying t with|some (.func ..)=>some (.sc (.bool true))|_=>none
 |.neq,.sc .nilFunc,.sc .nilFunc=>match P.underlying t with|some (.func ..)=>some (.sc (.bool false))|_=>none
 |_,_,_=>none
def Vp(op:UnOp)(x:AV):Option AV:=
 match op,x with
 |.neg,.sc (.int k n)=>some (.sc (.int k (k.wrap (0-n))))|.not,.sc (.bool b)=>some (.sc (.bool !b))|_,_=>none
def eI{F:jH}{ρ:Maps}{u v:Value}(h:fl F ρ (.sc u) v):v=u:=by
 cases h with
 |cell h=>cases h with|p h=>cases h;rfl
def Dc(P:Program)(w:World){op:BinOp}{k:IntKind}{a b:Int}{v:Value}(t:TypeId)(h:n5 op k a b=some v):(binOp op t (.int k a) (.int k b)).run P w=.ok v w/\xb v=true:=by
 cases op<;>simp only[n5,u6,reduceCtorEq] at h<;>(try(split at h))<;>
  (first
   |(subst h;refine⟨?_,rfl⟩;simp[binOp,Op.intArith,Op.intBits,Op.intCmp,Op.intDiv, *])
   |(cases h;refine⟨?_,rfl⟩;simp[binOp,Op.intArith,Op.intBits,Op.intCmp,Op.intDiv, *])
   |cases h)
def Dp(P:Program)(w:World){op:BinOp}{a b:ByteArray}{v:Value}(t:TypeId)(h:Hp op a b=some v):(binOp op t (.string a) (.string b)).run P w=.ok v w/\xb v=true:=by
 cases op<;>simp only[Hp,u6,reduceCtorEq] at h<;>(try(split at h))<;>
  (first
   |(subst h;refine⟨?_,rfl⟩;simp[binOp,Op.stringOp, *])
   |(cases h;refine⟨?_,rfl⟩;simp_all [binOp,Op.stringOp])
   |cases h)
def AA{F:jH}{ρ:Maps}{x:AV}{v:Value}(b:y' x=true)(h:fl F ρ x v):∃a,v=.pointer (some a):=by
 cases h with
 |agg c d=>simp[y'] at b
 |cell h=>
  cases h with
  |dc h=>exact⟨_,rfl⟩|loc c d e=>simp[y'] at b
  |wG c d e=>simp[y'] at b
  |p h=>cases h<;>first|(simp[y'] at b;done)|exact⟨_,rfl⟩
def uN{P:Program}{t e:TypeId}(h:P.underlying t=some (.pointer e)):P.underlying t=some (.pointer (P.pointee t)):=by
 simp[Program.pointee,h]
def wQ{F:jH}{ρ:Maps}{fn:Fn}{f c:List AV}{v:Value}(h:fl F ρ (.func fn f c) v):∃vf vc:List Value,v=.func fn vf.toArray vc.toArray/\gi (fB F ρ.G ρ.n) f vf/\gi (fB F ρ.G ρ.n) c vc:=by
 cases h with
 |cell h=>cases h with
  |p h=>cases h with|func a b=>exact⟨_,_,rfl,a.rP,b.rP⟩
def Lu(P:Program)(w:World){t:TypeId}{ps rs:Array TypeId}{b:Bool}(hu:P.underlying t=some (.func ps rs b))(fn:Fn)(f c:Array Value):(binOp .eql t (.func fn f c) .nilFunc).run P w=.ok (.bool false) w/\(binOp .neq t (.func fn f c) .nilFunc).run P w=.ok (.bool true) w:=by
 have h:∀d,(Op.equalIn (d+1) t (.func fn f c) .nilFunc).run P w=.ok false w:=λd=>by simp[Op.equalIn,run_underlying hu]
 have a:binOp .eql t (.func fn f c) .nilFunc=(do pure (.bool (<-Op.equalIn (9999+1) t (.func fn f c) .nilFunc))):=rfl;have e:binOp .neq t (.func fn f c) .nilFunc=(do pure (.bool (!(<-Op.equalIn (9999+1) t (.func fn f c) .nilFunc)))):=rfl;rw[a,e,fL,fL,h 9999];exact⟨rfl,rfl⟩
def Lt(P:Program)(w:World){t:TypeId}{ps rs:Array TypeId}{b:Bool}(hu:P.underlying t=some (.func ps rs b)):(binOp .eql t .nilFunc .nilFunc).run P w=.ok (.bool true) w/\(binOp .neq t .nilFunc .nilFunc).run P w=.ok (.bool false) w:=by
 have h:∀d,(Op.equalIn (d+1) t .nilFunc .nilFunc).run P w=.ok true w:=λd=>by simp[Op.equalIn,run_underlying hu]
 have a:binOp .eql t .nilFunc .nilFunc=(do pure (.bool (<-Op.equalIn (9999+1) t .nilFunc .nilFunc))):=rfl;have c:binOp .neq t .nilFunc .nilFunc=(do pure (.bool (!(<-Op.equalIn (9999+1) t .nilFunc .nilFunc)))):=rfl;rw[a,c,fL,fL,h 9999];exact⟨rfl,rfl⟩
def G6:Value->Bool
 |.nilIface=>false|.agg _=>false|_=>true
def HJ(P:Program)(w:World)(op:BinOp)(t:TypeId)(x y:Operand){u v:Value}(h:G6 u=true):(eqGuard op t x y u v).run P w=.ok () w:=by
 unfold eqGuard
 cases u<;>first|(simp[G6] at h;done)|(cases op<;>rfl)
def L5(P:Program)(w:World){F:jH}{ρ:Maps}{op:BinOp}{t:TypeId}{x y r:AV}{u v:Value}(h:pw P op t x y=some r)
  (b:fl F ρ x u) (hy:fl F ρ y v):∃z,(binOp op t u v).run P w=.ok z w/\r=.sc z/\xb z=true/\G6 u=true:=by
 unfold pw at h
 split at h
 ·cases eI b;cases eI hy
  split at h
  ·cases h
  ·rename_i c;cases h;exact⟨_,by simp[binOp,Op.shift,c],rfl,rfl,rfl⟩
 ·cases eI b;cases eI hy
  split at h
  ·cases h
  ·rename_i c;cases h;exact⟨_,by simp[binOp,Op.shift,c],rfl,rfl,rfl⟩
 ·cases eI b;cases eI hy
  split at h
  ·rename_i e;subst e;cases hi:n5 op _ _ _ with
   |none=>rw[hi] at h;cases h
   |some z=>
    rw[hi] at h;cases h;exact⟨z,(Dc P w t hi).1,rfl,(Dc P w t hi).2,rfl⟩
  ·cases h
 ·cases eI b;cases eI hy;cases hi:Hp op _ _ with
  |none=>rw[hi] at h;cases h
  |some z=>
   rw[hi] at h;cases h;exact⟨z,(Dp P w t hi).1,rfl,(Dp P w t hi).2,rfl⟩
 ·cases eI b;cases eI hy
  split at h
  ·rename_i hu;cases h;exact⟨_,run_eql_bool w t _ _ hu,rfl,rfl,rfl⟩
  ·cases h
 ·cases eI b;cases eI hy
  split at h
  ·rename_i hu;cases h;exact⟨_,run_neq_bool w t _ _ hu,rfl,rfl,rfl⟩
  ·cases h
 ·cases eI hy
  split at h
  ·rename_i hu
   split at h
   ·rename_i d;obtain⟨a,rfl⟩:=AA d b;cases h;exact⟨_,run_eql_pointer_nil w t _ (uN hu),by simp,rfl,rfl⟩
   ·split at h
    ·cases eI b;cases h;exact⟨_,run_eql_pointer_nil w t _ (uN hu),by simp,rfl,rfl⟩
    ·cases h
  ·cases h
 ·cases eI hy
  split at h
  ·rename_i hu
   split at h
   ·rename_i d;obtain⟨a,rfl⟩:=AA d b;cases h;exact⟨_,run_neq_pointer_nil w t _ (uN hu),by simp,rfl,rfl⟩
   ·split at h
    ·cases eI b;cases h;exact⟨_,run_neq_pointer_nil w t _ (uN hu),by simp,rfl,rfl⟩
    ·cases h
  ·cases h
 ·cases eI hy;obtain⟨vf,vc,rfl,_,_⟩:=wQ b
  split at h
  ·rename_i hu;cases h;exact⟨.bool false,(Lu P w hu _ _ _).1,rfl,rfl,rfl⟩
  ·cases h
 ·cases eI hy;obtain⟨vf,vc,rfl,_,_⟩:=wQ b
  split at h
  ·rename_i hu;cases h;exact⟨.bool true,(Lu P w hu _ _ _).2,rfl,rfl,rfl⟩
  ·cases h
 ·cases eI b;cases eI hy
  split at h
  ·rename_i hu;cases h;exact⟨.bool true,(Lt P w hu).1,rfl,rfl,rfl⟩
  ·cases h
 ·cases eI b;cases eI hy
  split at h
  ·rename_i hu;cases h;exact⟨.bool false,(Lt P w hu).2,rfl,rfl,rfl⟩
  ·cases h
 ·cases h
end Go.ky
namespace Go.ky
open Go
def pd{l:List AV}{sz:Nat}(h:∀x∈l,x.cells.length=sz):(l.flatMap AV.cells).length=l.length*sz:=by
 induction l with
 |nil=>simp|cons x l a=>
  rw[xY,pJ,a λy hy=>h y (by simp[hy]),h x (by simp),jW,w9,NB,S6]
def yT{l:List AV}{sz:Nat}(h:∀x∈l,x.cells.length=sz)(n:Nat):(l.take n).flatMap AV.cells=(l.flatMap AV.cells).take (n*sz):=by
 induction l generalizing n with
 |nil=>simp|cons x l a=>
  cases n with
  |zero=>simp|succ n=>
   have b:=h x (by simp)
   rw[List.take_succ_cons,xY,xY,a (λy hy=>h y (by simp[hy])),w9,NB,List.take_append,b,Qg (l:=x.cells) (by omega),RO]
def uR{l:List AV}{sz:Nat}(h:∀x∈l,x.cells.length=sz)(n:Nat):(l.drop n).flatMap AV.cells=(l.flatMap AV.cells).drop (n*sz):=by
 induction l generalizing n with
 |nil=>simp|cons x l a=>
  cases n with
  |zero=>simp|succ n=>
   have b:=h x (by simp)
   rw[List.drop_succ_cons,xY,a (λy hy=>h y (by simp[hy])),w9,NB,List.drop_append,b,IT (as:=x.cells) (by omega),RO,mI]
def Ja{l:List AV}{sz:Nat}(h:∀x∈l,x.cells.length=sz){i:Nat}{x:AV}(hi:l[i]?=some x):((l.flatMap AV.cells).drop (i*sz)).take sz=x.cells:=by
 have b:=uR h i;have a:i<l.length:=(oM.1 hi).1
 have c:l.drop i=x::l.drop (i+1):=by
  have:=Kz a;rw[this]
  congr 1
  exact(oM.1 hi).2
 rw[<-b,c,xY,List.take_append,Qg (by have:=h x (DP hi);omega)];simp[h x (DP hi)]
def jH.has.drop{F:jH}{b o:Nat}{vs:List Value}(h:F.has b o vs)(n:Nat):F.has b (o+n) (vs.drop n):=by
 intro i v a;rw[L3] at a;have:=h _ v a
 rwa [<-J'] at this
def jH.has.take{F:jH}{b o:Nat}{vs:List Value}(h:F.has b o vs)(n:Nat):F.has b o (vs.take n):=by
 intro i v a;rw[He] at a
 split at a
 ·exact h i v a
 ·cases a
section
variable{F:jH} {G:Nat->Nat} {n:Nat}
def fC.drop{xs vs}(h:fC F G n xs vs)(k:Nat):fC F G n (xs.drop k) (vs.drop k):=.nJ (h.rP.drop k)
def fC.take{xs vs}(h:fC F G n xs vs)(k:Nat):fC F G n (xs.take k) (vs.take k):=.nJ (h.rP.take k)
def fC.get{xs vs}(h:fC F G n xs vs){i:Nat}{x:AV}(a:xs[i]?=some x):∃v,vs[i]?=some v/\fB F G n x v:=h.rP.get a
def fC.length{xs vs}(h:fC F G n xs vs):xs.length=vs.length:=h.rP.length
def fC.append{xs vs a vs'}(h:fC F G n xs vs)(b:fC F G n a vs'):fC F G n (xs++a) (vs++vs'):=.nJ (h.rP.append b.rP)
end
def AV.w4{x:AV}(h:x.fA=true):x.cells=[x]:=by cases x<;>first|rfl|(simp[AV.fA] at h)
section
variable{P:Program}
def Bq{t:TypeId}{b:Bool}{n:Nat}(h:eB P t=some (b,n)):∃d i,P.underlying t=some d/\P.info? t=some i/\i.size=n/\(match d with|.struct _|.array _ _=>true|_=>false)=b:=by
 unfold eB at h
 split at h
 ·rename_i d i a hi;injection h with h;injection h with c e;exact⟨d,i,a,hi,e,c⟩
 ·cases h
def jm{t:TypeId}{b:Bool}{n:Nat}(h:eB P t=some (b,n))(w:World):(sizeOf t).run P w=.ok n w:=by
 obtain⟨d,i,a,hi,hn,_⟩:=Bq h;simp[sizeOf,typeInfo,hi,hn]
def u7{t:TypeId}{b:Bool}{n:Nat}(h:eB P t=some (b,n))(w:World):(isAgg t).run P w=.ok b w:=by
 obtain⟨d,i,a,hi,hn,c⟩:=Bq h;subst c;unfold isAgg;rw[fL,run_underlying a];cases d<;>rfl
def wI{t:TypeId}{cs:List AV}{off:Nat}{z:AV}(h:lO P t cs off=some z):(∃k,eB P t=some (true,k)/\off+k<=cs.length/\z=.agg ((cs.drop off).take k))\/(∃k,eB P t=some (false,k)/\cs[off]?=some z):=by
 unfold lO at h
 split at h
 ·split at h
  ·rename_i k a hle;injection h with h;exact .inl ⟨k,a,hle,h.symm⟩
  ·cases h
 ·rename_i k a;exact .inr ⟨k,a,h⟩
 ·cases h
def vi{t:TypeId}{k:Nat}(h:eB P t=some (true,k))(w:World)(a:Addr)(vs:List Value)(b:vs.length=k)
  (c:∀j v,vs[j]?=some v->w.cell? (a.add j)=some v):(loadVar t a).run P w=.ok (.agg vs.toArray) w:=by
 unfold loadVar;rw[fL,u7 h];simp only[iq,if_true];rw[fL,jm h,iq,fL,<-b,run_loadCells_list w a vs c];rfl
def vb{t:TypeId}{k:Nat}(h:eB P t=some (false,k))(w:World)(a:Addr)(v:Value)(b:w.cell? a=some v):(loadVar t a).run P w=.ok v w:=by
 unfold loadVar;rw[fL,u7 h];simp[load,Sem.run,b]
end
def oQ(P:Program)(t:TypeId)(x:AV)(i:Nat):Option AV:=
 match dO P t i with
 |none=>none|some (off,a)=>
  match eB P a with
  |none=>none|some (_,n)=>
   if n=0 then none else
   match x with
   |.dc b g o=>some (.dc b g (o+off))|.ei o f=>some (.ei o (f+off))|.kN y=>(lO P a y.cells off).map .kN|_=>none
def Aw(P:Program)(t:TypeId)(x:AV)(i:Nat):Option AV:=
 match dO P t i,x with
 |some (off,a),.agg cs=>lO P a cs off|_,_=>none
def eL(P:Program)(t:TypeId)(x i:AV):Option AV:=
 match i with
 |.sc (.int _ n)=>
  match P.underlying t,x with
  |some (.slice e),.slice _ l=>
   if 0<=n then
    match l[n.toNat]?,eB P e with
    |some y,some (_,sz)=>if y.cells.length=sz then some (.kN y)else none|_,_=>none
   else none
  |some (.slice e),.wG b g len _=>
   match eB P e with
   |some (_,sz)=>if 0<=n/\n<len then some (.dc b g (n.toNat*sz))else none|none=>none
  |some (.slice e),.yx b off len _=>
   match eB P e with
   |some (_,sz)=>if 0<=n/\n<len then some (.ei b (off+n.toNat*sz))else none|none=>none
  |some (.array len e),.dc b g o=>
   match eB P e with
   |some (_,sz)=>if 0<=n/\n<len then some (.dc b g (o+n.toNat*sz))else none|none=>none
  |some (.array len e),.ei a o=>
   match eB P e with
   |some (_,sz)=>if 0<=n/\n<len then some (.ei a (o+n.toNat*sz))else none|none=>none
  |some (.array len e),.kN y=>
   match eB P e with
   |some (_,sz)=>if 0<=n/\n<len then(lO P e y.cells (n.toNat*sz)).map .kN else none|none=>none
  |_,_=>none
 |_=>none
def Jx(P:Program)(t:TypeId)(x i:AV):Option AV:=
 match i with
 |.sc (.int _ n)=>
  match P.underlying t,x with
  |some .string,.sc (.string s)=>if 0<=n then(s[n.toNat]?).map λb=>.sc (.int .u8 b.toNat)else none|some (.array len e),.agg cs=>
   match eB P e with
   |some (_,sz)=>if 0<=n/\n<len then lO P e cs (n.toNat*sz)else none|none=>none
  |_,_=>none
 |_=>none
section
variable{P:Program} {F:jH} {ρ:Maps}
def yM{cs:List AV}{v:Value}(h:fl F ρ (.agg cs) v):∃vs:List Value,v=.agg vs.toArray/\gi (iR F ρ) cs vs/\∀c∈cs,c.fA=true:=by
 cases h with
 |agg a b=>exact⟨_,rfl,a,b⟩|cell h=>cases h with
  |p h=>cases h with|agg a b=>exact⟨_,rfl,a.rP.mono λ_ _ _ h=>.p h,b⟩
def Kg{cs:List AV}{v:Value}(h:fl F ρ (.tuple cs) v):∃vs:List Value,v=.tuple vs.toArray/\gi (fB F ρ.G ρ.n) cs vs:=by
 cases h with
 |cell h=>cases h with
  |p h=>cases h with|tuple a=>exact⟨_,rfl,a.rP⟩
def tW{b g off:Nat}{v:Value}(h:fl F ρ (.dc b g off) v):v=.pointer (some ⟨ρ.L b g,off,none⟩)/\g<=ρ.lg b:=by
 cases h with
 |cell h=>cases h with
  |p h=>cases h
  |dc h=>exact⟨rfl,h⟩
def ry{o off:Nat}{v:Value}(h:fl F ρ (.ei o off) v):v=.pointer (some ⟨ρ.G o,off,none⟩)/\o<ρ.n:=by
 cases h with
 |cell h=>cases h with
  |p h=>cases h with|ei h=>exact⟨rfl,h⟩
def Am{x:AV}{v:Value}(h:fl F ρ (.kN x) v):∃b o vs,v=.pointer (some ⟨b,o,none⟩)/\fC F ρ.G ρ.n x.cells vs/\F.has b o vs/\∀c∈x.cells,c.fA=true:=by
 cases h with
 |cell h=>cases h with
  |p h=>cases h with|kN a d e=>exact⟨_,_,_,rfl,a,d,e⟩
def yX{b g len cap:Nat}{v:Value}(h:fl F ρ (.wG b g len cap) v):v=.slice (some ⟨ρ.L b g,0,none⟩) len cap/\g<=ρ.lg b/\len<=cap/\cap<=maxLen:=by
 cases h with
 |cell h=>cases h with
  |p h=>cases h
  |wG a c d=>exact⟨rfl,a,c,d⟩
def IY{o off len cap:Nat}{v:Value}(h:fl F ρ (.yx o off len cap) v):v=.slice (some ⟨ρ.G o,off,none⟩) len cap/\o<ρ.n/\len<=cap/\cap<=maxLen:=by
 cases h with
 |cell h=>cases h with
  |p h=>cases h with|yx a b c=>exact⟨rfl,a,b,c⟩
structure Qy (F:jH) (ρ:Maps) (l:List AV) (base:Option Addr) (cap b o sz:Nat) (vs:List Value):Prop where
 cells:fC F ρ.G ρ.n (l.flatMap AV.cells) vs
 has:F.has b o vs
 base:l≠[]->base=some ⟨b,o,none⟩
 sz:∀x∈l,x.cells.length=sz
 tk:∀c∈l.flatMap AV.cells,c.fA=true
 GG:l.length<=cap
 AT:cap<=maxLen
def fB.FZ{G:Nat->Nat}{n:Nat}{tag:Tag}{l:List AV}{v:Value}(h:fB F G n (.slice tag l) v):∃base cap b o sz vs,v=.slice base l.length cap/\fC F G n (l.flatMap AV.cells) vs/\F.has b o vs/\(l≠[]->base=some ⟨b,o,none⟩)/\(∀x∈l,x.cells.length=sz)/\(∀c∈l.flatMap AV.cells,c.fA=true)/\l.length<=cap/\cap<=maxLen/\(tag=.eh\/tag=.full/\cap=l.length):=by
 cases h with|slice a d e f g i j k=>exact⟨_,_,_,_,_,_,rfl,a,d,e,f,g,i,j,k⟩
def nu{tag:Tag}{l:List AV}{v:Value}(h:fl F ρ (.slice tag l) v):∃base cap b o sz vs,v=.slice base l.length cap/\Qy F ρ l base cap b o sz vs/\(tag=.full->cap=l.length)/\(∀k g,tag=.loc k g->g<=ρ.ag k/\qm ρ k g l base cap):=by
 cases h with
 |cell h=>cases h with
  |p h=>
   obtain⟨base,cap,b,o,sz,vs,rfl,a,c,d,e,f,i,j,h8⟩:=h.FZ;refine⟨base,cap,b,o,sz,vs,rfl,⟨a,c,d,e,f,i,j⟩,?_,?_⟩
   ·rintro rfl;rcases h8 with h8|h8
    ·cases h8
    ·exact h8.2
   ·rintro k g rfl;rcases h8 with h8|h8
    ·cases h8
    ·cases h8.1
  |loc a c d=>
   obtain⟨base,cap,b,o,sz,vs,he,a,m,n,e,f,i,j,h8⟩:=a.FZ;injection he with q r s;subst q;subst s;refine⟨_,_,b,o,sz,vs,rfl,⟨a,m,n,e,f,i,j⟩,(by intro h;cases h),?_⟩;rintro k g he;injection he with q r;subst q;subst r;exact⟨c,d⟩
def Ga{G:Nat->Nat}{n:Nat}{cs:List AV}{vs:List Value}{b o:Nat}{t:TypeId}{off:Nat}{z:AV}(e:fC F G n cs vs)(f:F.has b o vs)(g:∀c∈cs,c.fA=true)
  (h:lO P t cs off=some z):fB F G n (.kN z) (.pointer (some ⟨b,o+off,none⟩)):=by
 rcases wI h with⟨k,j,hle,rfl⟩|⟨k,j,d⟩
 ·exact .kN ((e.drop off).take k) ((f.drop off).take k) (λc d=>g c (Ek (Ac d)))
 ·obtain⟨v,l,m⟩:=e.get d;have a:=g z (DP d);refine .kN (vs:=[v]) (by rw[AV.w4 a];exact .cons m .nil) ?_ (by rw[AV.w4 a];simpa using a);intro i u hu;cases i with
  |zero=>simp at hu;subst hu;exact f off _ l
  |succ i=>simp at hu
def Eo(w:World){t:TypeId}{x r:AV}{u:Value}{i:Nat}(h:oQ P t x i=some r)(j:fl F ρ x u):∃v,(Instr.fieldAt t u i).run P w=.ok v w/\fl F ρ r v:=by
 unfold oQ at h
 split at h
 ·cases h
 ·rename_i off l c
  split at h
  ·cases h
  ·rename_i agg n m
   split at h
   ·cases h
   ·rename_i hn
    have e:∃d f,P.underlying t=some (.struct d)/\d[i]?=some f/\f.offset=off/\f.type=l:=by
     unfold dO at c
     split at c
     ·rename_i d hu;cases a:d[i]?with
      |none=>rw[a] at c;cases c
      |some f=>
       rw[a] at c;simp at c;exact⟨d,f,hu,a,c.1,c.2⟩
     ·cases c
    obtain⟨d,f,hu,a,rfl,rfl⟩:=e
    have key:∀b o:Nat,(Instr.fieldAt t (.pointer (some ⟨b,o,none⟩)) i).run P w=.ok (.pointer (some ⟨b,o+f.offset,none⟩)) w:=by
     intro b o;unfold Instr.fieldAt;rw[fL,run_underlying hu,iq];simp only[a,Instr.sureAddr,fL,mE,iq,fieldPlace,jm m,hn,lG,Addr.add_lit]
    split at h
    ·rename_i b g o;cases h;obtain⟨rfl,hg⟩:=tW j;exact⟨_,key _ _,.cell (.dc hg)⟩
    ·rename_i o B;cases h;obtain⟨rfl,hg⟩:=ry j;exact⟨_,key _ _,.p (.ei hg)⟩
    ·rename_i y;obtain⟨b,o,vs,rfl,q,s,A⟩:=Am j;cases k:lO P f.type y.cells f.offset with
     |none=>rw[k] at h;cases h
     |some z=>
      rw[k] at h;cases h;exact⟨_,key _ _,.p (Ga q s A k)⟩
    ·cases h
def zg(w:World){t:TypeId}{cs:List AV}{vs:List Value}{off:Nat}{z:AV}(d:gi (iR F ρ) cs vs)(e:∀c∈cs,c.fA=true)(f:lO P t cs off=some z):∃v,(part t vs.toArray off).run P w=.ok v w/\fl F ρ z v:=by
 rcases wI f with⟨k,a,hle,rfl⟩|⟨k,a,b⟩
 ·refine⟨.agg ((vs.drop off).take k).toArray,?_,.agg ((d.drop off).take k) (λc b=>e c (Ek (Ac b)))⟩;unfold part;rw[fL,u7 a];simp only[iq,if_true,fL,jm a,mE]
  congr 3
  simp[List.drop_take]
 ·obtain⟨v,g,h⟩:=d.get b;refine⟨v,?_,.cell h⟩;unfold part;rw[fL,u7 a];simp[g]
def Mz(w:World){t:TypeId}{x r:AV}{u:Value}{i:Nat}(h:Aw P t x i=some r)(e:fl F ρ x u):∃v,(Instr.field t u i).run P w=.ok v w/\fl F ρ r v:=by
 unfold Aw at h
 split at h
 ·rename_i off g cs b;obtain⟨vs,rfl,j,k⟩:=yM e
  have d:∃c f,P.underlying t=some (.struct c)/\c[i]?=some f/\f.offset=off/\f.type=g:=by
   unfold dO at b
   split at b
   ·rename_i c hu;cases a:c[i]?with
    |none=>rw[a] at b;cases b
    |some f=>
     rw[a] at b;simp at b;exact⟨c,f,hu,a,b.1,b.2⟩
   ·cases b
  obtain⟨c,f,hu,a,rfl,rfl⟩:=d;obtain⟨v,l,m⟩:=zg w j k h;refine⟨v,?_,m⟩;unfold Instr.field;rw[fL,run_underlying hu,iq];simp only[a,asAgg,fL,mE,iq,l]
 ·cases h
def Em(w:World){t:TypeId}{x i r:AV}{u j:Value}(h:eL P t x i=some r)(m:fl F ρ x u)(hi:fl F ρ i j):∃v,(Instr.indexAt t u j).run P w=.ok v w/\fl F ρ r v:=by
 unfold eL at h
 split at h
 ·rename_i k n;cases eI hi
  split at h
  ·rename_i e tag l hu
   split at h
   ·rename_i hn
    split at h
    ·rename_i y agg sz hy a
     split at h
     ·rename_i s;cases h;obtain⟨base,cap,b,o,d,vs,rfl,hs,_,_⟩:=nu m;have A:n.toNat<l.length:=(oM.1 hy).1
      have B:l≠[]:=by rintro rfl;simp at A
      have f:=DP hy
      have q:d=sz:=by rw[<-hs.sz y f,s]
      subst q;rw[hs.base B];refine⟨.pointer (some ⟨b,o+n.toNat*d,none⟩),?_,.p (.kN (vs:=(vs.drop (n.toNat*d)).take d) ?_ ?_ ?_)⟩
      ·unfold Instr.indexAt;simp only[asIntOf,fL,mE,iq,run_underlying hu];rw[cG ⟨hn,by omega⟩];simp only[fL,mE,iq,jm a,Addr.add_lit]
      ·rw[<-Ja hs.sz hy];exact(hs.cells.drop _).take _
      ·exact(hs.has.drop _).take _
      ·intro c D;exact hs.tk c (PK.2 ⟨y,f,D⟩)
     ·cases h
    ·cases h
   ·cases h
  ·rename_i e b g len cap hu
   split at h
   ·rename_i agg sz a
    split at h
    ·rename_i hn;cases h;obtain⟨rfl,hg,_,_⟩:=yX m;refine⟨.pointer (some ⟨ρ.L b g,n.toNat*sz,none⟩),?_,.cell (.dc hg)⟩;unfold Instr.indexAt;simp only[asIntOf,fL,mE,iq,run_underlying hu];rw[cG ⟨hn.1,by omega⟩];simp only[fL,mE,iq,jm a,Addr.add_lit,sy]
    ·cases h
   ·cases h
  ·rename_i e b off len cap hu
   split at h
   ·rename_i agg sz a
    split at h
    ·rename_i hn;cases h;obtain⟨rfl,hg,_,_⟩:=IY m;refine⟨.pointer (some ⟨ρ.G b,off+n.toNat*sz,none⟩),?_,.p (.ei hg)⟩;unfold Instr.indexAt;simp only[asIntOf,fL,mE,iq,run_underlying hu];rw[cG ⟨hn.1,by omega⟩];simp only[fL,mE,iq,jm a,Addr.add_lit]
    ·cases h
   ·cases h
  ·rename_i len e b g o hu
   split at h
   ·rename_i agg sz a
    split at h
    ·rename_i hn;cases h;obtain⟨rfl,hg⟩:=tW m;refine⟨.pointer (some ⟨ρ.L b g,o+n.toNat*sz,none⟩),?_,.cell (.dc hg)⟩;unfold Instr.indexAt;simp only[asIntOf,Instr.sureAddr,fL,mE,iq,run_underlying hu];rw[cG hn];simp only[fL,mE,iq,jm a,Addr.add_lit]
    ·cases h
   ·cases h
  ·rename_i len e E o hu
   split at h
   ·rename_i agg sz a
    split at h
    ·rename_i hn;cases h;obtain⟨rfl,hg⟩:=ry m;refine⟨.pointer (some ⟨ρ.G E,o+n.toNat*sz,none⟩),?_,.p (.ei hg)⟩;unfold Instr.indexAt;simp only[asIntOf,Instr.sureAddr,fL,mE,iq,run_underlying hu];rw[cG hn];simp only[fL,mE,iq,jm a,Addr.add_lit]
    ·cases h
   ·cases h
  ·rename_i len e y hu
   split at h
   ·rename_i agg sz a
    split at h
    ·rename_i hn;obtain⟨b,o,vs,rfl,H,I,J⟩:=Am m;cases C:lO P e y.cells (n.toNat*sz)with
     |none=>rw[C] at h;cases h
     |some z=>
      rw[C] at h;cases h;refine⟨.pointer (some ⟨b,o+n.toNat*sz,none⟩),?_,.p (Ga H I J C)⟩;unfold Instr.indexAt;simp only[asIntOf,Instr.sureAddr,fL,mE,iq,run_underlying hu];rw[cG hn];simp only[fL,mE,iq,jm a,Addr.add_lit]
    ·cases h
   ·cases h
  ·cases h
 ·cases h
def MW(w:World){t:TypeId}{x i r:AV}{u j:Value}(h:Jx P t x i=some r)(c:fl F ρ x u)(hi:fl F ρ i j):∃v,(Instr.index t u j).run P w=.ok v w/\fl F ρ r v:=by
 unfold Jx at h
 split at h
 ·rename_i k n;cases eI hi
  split at h
  ·rename_i s hu;cases eI c
   split at h
   ·rename_i hn;cases a:s[n.toNat]?with
    |none=>rw[a] at h;cases h
    |some b=>
     rw[a] at h;cases h;refine⟨.int .u8 b.toNat,?_,.p (.sc rfl)⟩;unfold Instr.index;simp[asIntOf,run_underlying hu,hn,a]
   ·cases h
  ·rename_i len e cs hu
   split at h
   ·rename_i agg sz d
    split at h
    ·rename_i hn;obtain⟨vs,rfl,f,g⟩:=yM c;obtain⟨v,l,m⟩:=zg w f g h;refine⟨v,?_,m⟩;unfold Instr.index;simp only[asIntOf,fL,mE,iq,run_underlying hu];rw[cG hn];simp only[fL,jm d,iq,l]
    ·cases h
   ·cases h
  ·cases h
 ·cases h
end
end Go.ky
