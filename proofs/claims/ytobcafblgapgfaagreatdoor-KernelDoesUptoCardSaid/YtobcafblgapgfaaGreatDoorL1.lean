/- Part of the proof of KernelAccepts, KernelDoes: layer. -/
import Derived.Orders
import Derived.Below
import Derived.Laws.AppendOwn
import Derived.Laws.Cells
import Derived.Laws.CopyRow
import Derived.Laws.Small
import Derived.Laws.Pointers
import Derived.WalkSpells
import Derived.Test.YtobcafblgapgfaaGreatDoorB1
set_option linter.all false
namespace Go.ke
open Go
inductive Tag where
 |hY|full|loc (k g:Nat)
inductive AV where
 |undef|sc (v:Value)|lG (x:AV)|fC (b g off:Nat)|dM (o off:Nat)|slice (tag:Tag) (l:List AV)|agg (cs:List AV)|tuple (vs:List AV)|func (fn:Fn) (first cap:List AV)
 |iface (t:TypeId) (x:AV)|vM (b g len cap:Nat)|mU (o:Nat)|td (ks:List Value) (xs:List AV)|l_ (o since:Nat) (seen:List Nat)|pQ (o off len cap:Nat)|HK
instance:Inhabited AV:=⟨.undef⟩
def AV.cells:AV->List AV
 |.agg cs=>cs|x=>[x]
def AV.eD:AV->Bool
 |.agg _=>false|.tuple _=>false|.td _ _=>false|.l_ _ _ _=>false|_=>true
def z7:Value->Bool
 |.bool _=>true|.int _ _=>true|.float _ _=>true|.string _=>true|.pointer none=>true|.map none=>true|.nilFunc=>true|.nilIface=>true|_=>false
inductive f_ {α β:Type} (R:α->β->Prop):List α->List β->Prop
 |nil:f_ R [] []|cons {a b as bs}:R a b->f_ R as bs->f_ R (a::as) (b::bs)
def f_.length{α β:Type}{R:α->β->Prop}{as:List α}{bs:List β}(h:f_ R as bs):as.length=bs.length:=by
 induction h with
 |nil=>rfl|cons _ _ a=>simp[a]
def f_.mono{α β:Type}{R S:α->β->Prop}{as:List α}{bs:List β}(h:f_ R as bs)(hs:∀a b,a∈as->R a b->S a b):f_ S as bs:=by
 induction h with
 |nil=>exact .nil|cons h1 _ c=>exact .cons (hs _ _ aa4 h1) (c λa b d=>hs a b (by simp[d]))
def f_.append{α β:Type}{R:α->β->Prop}{as a:List α}{bs b:List β}(h:f_ R as bs)(c:f_ R a b):f_ R (as++a) (bs++b):=by
 induction h with
 |nil=>exact c|cons h1 _ d=>exact .cons h1 d
def f_.take{α β:Type}{R:α->β->Prop}{as:List α}{bs:List β}(h:f_ R as bs)(n:Nat):f_ R (as.take n) (bs.take n):=by
 induction h generalizing n with
 |nil=>simp;exact .nil|cons h1 _ a=>cases n with
  |zero=>exact .nil|succ n=>exact .cons h1 (a n)
def f_.drop{α β:Type}{R:α->β->Prop}{as:List α}{bs:List β}(h:f_ R as bs)(n:Nat):f_ R (as.drop n) (bs.drop n):=by
 induction h generalizing n with
 |nil=>simp;exact .nil|cons h1 a b=>cases n with
  |zero=>exact .cons h1 a|succ n=>exact b n
def f_.get{α β:Type}{R:α->β->Prop}{as:List α}{bs:List β}(h:f_ R as bs){i:Nat}{a:α}(c:as[i]?=some a):∃b,bs[i]?=some b/\R a b:=by
 induction h generalizing i with
 |nil=>simp at c
 |cons h1 _ d=>cases i with
  |zero=>simp at c;subst c;exact⟨_,rfl,h1⟩
  |succ i=>simp at c;simpa using d c
def f_.mem{α β:Type}{R:α->β->Prop}{as:List α}{bs:List β}(h:f_ R as bs){b:β}(hb:b∈bs):∃a∈as,R a b:=by
 induction h with
 |nil=>simp at hb
 |cons h1 _ c=>
  rcases j0.1 hb with rfl|hb
  ·exact⟨_,aa4,h1⟩
  ·obtain⟨a,d,e⟩:=c hb;exact⟨a,by simp[d],e⟩
def f_.wQ{α α' β:Type}{R:α->β->Prop}{S:α'->β->Prop}{as:List α}{bs:List β}(f:α->α')(h:f_ R as bs)(hs:∀a b,a∈as->R a b->S (f a) b):f_ S (as.map f) bs:=by
 induction h with
 |nil=>exact .nil|cons h1 _ c=>exact .cons (hs _ _ aa4 h1) (c λa b d=>hs a b (by simp[d]))
abbrev jY:=Nat->Nat->Option Value
def jY.has(F:jY)(b o:Nat)(vs:List Value):Prop:=∀i v,vs[i]?=some v->F b (o+i)=some v
mutual
inductive fF (F:jY) (G:Nat->Nat) (n:Nat):AV->Value->Prop
 |undef {v}:v.oneCell'=true->fF F G n .undef v|sc {v}:z7 v=true->fF F G n (.sc v) v|lG {x b o vs}:fq F G n x.cells vs->F.has b o vs->(∀c∈x.cells,c.eD=true)->fF F G n (.lG x) (.pointer (some ⟨b,o,none⟩))|dM {o off}:o<n->fF F G n (.dM o off) (.pointer (some ⟨G o,off,none⟩))|mU {o}:o<n->fF F G n (.mU o) (.map (some (G o)))|pQ {o off len cap}:o<n->len<=cap->cap<=maxLen->fF F G n (.pQ o off len cap) (.slice (some ⟨G o,off,none⟩) len cap)|slice {tag l vs b o base cap sz}:fq F G n (l.flatMap AV.cells) vs->F.has b o vs->(l≠[]->base=some ⟨b,o,none⟩)->(∀x∈l,x.cells.length=sz)->(∀c∈l.flatMap AV.cells,c.eD=true)->l.length<=cap->cap<=maxLen->tag=.hY\/tag=.full/\cap=l.length->fF F G n (.slice tag l) (.slice base l.length cap)|HK {base}:fF F G n .HK (.slice base 0 0)|agg {cs vs}:fq F G n cs vs->(∀c∈cs,c.eD=true)->fF F G n (.agg cs) (.agg vs.toArray)|tuple {cs vs}:fq F G n cs vs->fF F G n (.tuple cs) (.tuple vs.toArray)|func {fn f c vf vc}:fq F G n f vf->fq F G n c vc->fF F G n (.func fn f c) (.func fn vf.toArray vc.toArray)|iface {t x v}:fF F G n x v->fF F G n (.iface t x) (.iface t v)
inductive fq (F:jY) (G:Nat->Nat) (n:Nat):List AV->List Value->Prop
 |nil:fq F G n [] []|cons {x v xs vs}:fF F G n x v->fq F G n xs vs->fq F G n (x::xs) (v::vs)
end
section
variable{F F':jY} {G G':Nat->Nat} {n n':Nat}
def fq.sF{xs vs}(h:fq F G n xs vs):f_ (fF F G n) xs vs:=by
 induction xs generalizing vs with
 |nil=>cases h;exact .nil
 |cons x xs a=>cases h with|cons h1 b=>exact .cons h1 (a b)
def fq.m6{xs vs}(h:f_ (fF F G n) xs vs):fq F G n xs vs:=by
 induction h with
 |nil=>exact .nil|cons h1 _ a=>exact .cons h1 a
structure Cc (F F':jY) (G G':Nat->Nat) (n n':Nat):Prop where
 mF:∀b o v,F b o=some v->F' b o=some v
 mn:n<=n'
 mG:∀o,o<n->G' o=G o
def Cc.refl:Cc F F G G n n:=⟨λ_ _ _ h=>h,gu _,λ_ _=>rfl⟩
def jY.has.grow{b o vs}(h:F.has b o vs)(hg:Cc F F' G G' n n'):F'.has b o vs:=λi v a=>hg.mF _ _ _ (h i v a)
mutual
def fF.grow(hg:Cc F F' G G' n n'):∀{x v},fF F G n x v->fF F' G' n' x v
 |_,_,.undef h=>.undef h|_,_,.sc h=>.sc h|_,_,.lG h1 a b=>.lG (h1.grow hg) (a.grow hg) b|_,_,.dM (o:=o) (off:=off) h=>by
  rw[<-hg.mG o h];exact .dM (FE h hg.mn)
 |_,_,.mU (o:=o) h=>by
  rw[<-hg.mG o h];exact .mU (FE h hg.mn)
 |_,_,.pQ (o:=o) h a b=>by
  rw[<-hg.mG o h];exact .pQ (FE h hg.mn) a b
 |_,_,.slice h1 a b c d e f g=>.slice (h1.grow hg) (a.grow hg) b c d e f g|_,_,.HK=>.HK|_,_,.agg h1 a=>.agg (h1.grow hg) a|_,_,.tuple h1=>.tuple (h1.grow hg)|_,_,.func h1 a=>.func (h1.grow hg) (a.grow hg)|_,_,.iface h1=>.iface (h1.grow hg)
def fq.grow(hg:Cc F F' G G' n n'):∀{xs vs},fq F G n xs vs->fq F' G' n' xs vs
 |_,_,.nil=>.nil|_,_,.cons h1 a=>.cons (h1.grow hg) (a.grow hg)
end
def fF.Ff{x v}(h:fF F G n x v)(a:x.eD=true):v.oneCell'=true:=by
 cases h with
 |undef h=>exact h|sc h=>revert h;cases v<;>simp[z7,Value.oneCell']
 |agg h1 b=>simp[AV.eD] at a
 |tuple h1=>simp[AV.eD] at a
 |_=>rfl
def fF.cells{x v}(h:fF F G n x v)(c:∀vs,x≠ .tuple vs):fq F G n x.cells v.cells.toList:=by
 cases h with
 |undef h=>cases v<;>first|exact .cons (.undef h) .nil|(simp[Value.oneCell'] at h;done)
 |sc h=>cases v<;>first|exact .cons (.sc h) .nil|(simp[z7] at h;done)
 |lG h1 a b=>exact .cons (.lG h1 a b) .nil|dM h1=>exact .cons (.dM h1) .nil|mU h1=>exact .cons (.mU h1) .nil|pQ h1 a b=>exact .cons (.pQ h1 a b) .nil|slice h1 a b d e f g i=>exact .cons (.slice h1 a b d e f g i) .nil|HK=>exact .cons .HK .nil|agg h1 a=>exact h1|tuple h1=>exact absurd rfl (c _)|func h1 a=>exact .cons (.func h1 a) .nil|iface h1=>exact .cons (.iface h1) .nil
end
structure Maps where
 G:Nat->Nat
 n:Nat
 L:Nat->Nat->Nat
 lg:Nat->Nat
 A:Nat->Nat->Option (Nat×Nat×Nat)
 ag:Nat->Nat
def su(ρ:Maps)(k g:Nat)(l:List AV)(base:Option Addr)(cap:Nat):Prop:=
 match ρ.A k g with
 |none=>cap=l.length|some (b,c,sz)=>base=some ⟨b,0,none⟩/\cap=c/\∀x∈l,x.cells.length=sz
inductive iL (F:jY) (ρ:Maps):AV->Value->Prop
 |p {x v}:fF F ρ.G ρ.n x v->iL F ρ x v|fC {b g off}:g<=ρ.lg b->iL F ρ (.fC b g off) (.pointer (some ⟨ρ.L b g,off,none⟩))|loc {k g l base cap}:fF F ρ.G ρ.n (.slice .hY l) (.slice base l.length cap)->g<=ρ.ag k->su ρ k g l base cap->iL F ρ (.slice (.loc k g) l) (.slice base l.length cap)|vM {b g len cap}:g<=ρ.lg b->len<=cap->cap<=maxLen->iL F ρ (.vM b g len cap) (.slice (some ⟨ρ.L b g,0,none⟩) len cap)
inductive fG (F:jY) (ρ:Maps):AV->Value->Prop
 |cell {x v}:iL F ρ x v->fG F ρ x v|agg {cs vs}:f_ (iL F ρ) cs vs->(∀c∈cs,c.eD=true)->fG F ρ (.agg cs) (.agg vs.toArray)
structure tI (F F':jY) (ρ ρ':Maps):Prop where
 g:Cc F F' ρ.G ρ'.G ρ.n ρ'.n
 lg:∀b,ρ.lg b<=ρ'.lg b
 L:∀b g,g<=ρ.lg b->ρ'.L b g=ρ.L b g
 ag:∀k,ρ.ag k<=ρ'.ag k
 A:∀k g,g<=ρ.ag k->ρ'.A k g=ρ.A k g
section
variable{F F':jY} {ρ ρ':Maps}
def iL.grow(hg:tI F F' ρ ρ'){x v}(h:iL F ρ x v):iL F' ρ' x v:=by
 cases h with
 |p h=>exact .p (h.grow hg.g)|fC h=>
  rename_i b g off;rw[<-hg.L b g h];exact .fC (uJ h (hg.lg b))
 |loc h1 a c=>
  refine .loc (h1.grow hg.g) (uJ a (hg.ag _)) ?_;unfold su;rw[hg.A _ _ a];exact c
 |vM h a c=>
  rename_i b g len cap;rw[<-hg.L b g h];exact .vM (uJ h (hg.lg b)) a c
def fG.grow(hg:tI F F' ρ ρ'){x v}(h:fG F ρ x v):fG F' ρ' x v:=by
 cases h with
 |cell h=>exact .cell (h.grow hg)|agg h1 a=>exact .agg (h1.mono λ_ _ _ h=>h.grow hg) a
def fG.p{x v}(h:fF F ρ.G ρ.n x v):fG F ρ x v:=.cell (.p h)
end
def AV.h_:AV->AV
 |.slice _ l=>.slice .hY l|.fC _ _ _=>.undef|.vM _ _ _ _=>.undef|x=>x
def AV.norm:AV->AV
 |.agg cs=>.agg (cs.map AV.h_)|x=>x.h_
section
variable{F F':jY} {ρ ρ':Maps}
def fF.hY{G:Nat->Nat}{n:Nat}{tag l v}(h:fF F G n (.slice tag l) v):fF F G n (.slice .hY l) v:=by
 cases h with
 |slice h1 a b c d e f g=>exact .slice h1 a b c d e f (.inl rfl)
def fF.h_{G:Nat->Nat}{n:Nat}{x v}(h:fF F G n x v):fF F G n x.h_ v:=by
 cases x with
 |slice tag l=>exact h.hY|fC b g off=>cases h
 |vM b g len cap=>cases h
 |_=>exact h
def iL.h_{x v}(h:iL F ρ x v):fF F ρ.G ρ.n x.h_ v:=by
 cases h with
 |p h=>exact h.h_|fC h=>exact .undef rfl|loc h1 a b=>exact h1|vM h1 a b=>exact .undef rfl
def AV.DT(x:AV):x.h_.eD=x.eD:=by cases x<;>rfl
def fG.norm{x v}(h:fG F ρ x v):fF F ρ.G ρ.n x.norm v:=by
 have d:∀{cs:List AV} {vs:List Value},f_ (iL F ρ) cs vs->(∀c∈cs,c.eD=true)->fF F ρ.G ρ.n (AV.agg cs).norm (.agg vs.toArray):=by
  intro cs vs h1 e;refine .agg (fq.m6 (h1.wQ AV.h_ λa b _ h=>h.h_)) ?_;intro c f;obtain⟨a,g,rfl⟩:=l8.1 f;rw[AV.DT];exact e a g
 cases h with
 |agg h1 e=>exact d h1 e|cell h=>
  cases x with
  |agg cs=>
   cases h with
   |p h=>
    cases h with
    |agg h1 e=>exact d (h1.sF.mono λ_ _ _ h=>.p h) e
  |_=>exact h.h_
def fG.cells{x v}(h:fG F ρ x v)(c:∀vs,x≠ .tuple vs):f_ (iL F ρ) x.cells v.cells.toList:=by
 cases h with
 |agg h1 a=>exact h1|cell h=>
  cases h with
  |p h=>exact(h.cells c).sF.mono λ_ _ _ h=>.p h|fC h=>exact .cons (.fC h) .nil|loc h1 a b=>exact .cons (.loc h1 a b) .nil|vM h1 a b=>exact .cons (.vM h1 a b) .nil
def iL.Ff{x v}(h:iL F ρ x v)(a:x.eD=true):v.oneCell'=true:=by
 cases h with
 |p h=>exact h.Ff a|fC h=>rfl|loc h1 b c=>rfl|vM h1 b c=>rfl
def fG.qS{x v}(h:fG F ρ x v)(b:∀vs,x≠ .tuple vs):∀c∈x.cells,c.eD=true:=by
 cases h with
 |agg h1 a=>exact a|cell h=>
  cases h with
  |p h=>
   cases h with
   |agg h1 a=>exact a|tuple h1=>exact absurd rfl (b _)|_=>simp[AV.cells,AV.eD]
  |fC h=>simp[AV.cells,AV.eD]|loc h1 a d=>simp[AV.cells,AV.eD]|vM h1 a d=>simp[AV.cells,AV.eD]
end
end Go.ke
namespace Go.ke
open Go
abbrev cW:=List (List AV)
abbrev dx:=Nat->Option AV
structure Fr where
 env:Nat->AV
 box:Nat->Option (List AV)
 gen:Nat->Nat
 tm:Nat->Option Nat
 ei:Nat->Nat
def fN{α:Type}(f:Nat->α)(i:Nat)(x:α):Nat->α:=λj=>if j=i then x else f j
def Fr.put(fr:Fr)(d:Option Nat)(x:AV):Fr:=
 match d with
 |some d=>{fr with env:=fN fr.env d x}|none=>fr
section
variable(P:Program)
def eO(t:TypeId):Option (Bool×Nat):=
 match P.underlying t,P.info? t with
 |some d,some i=>some (match d with|.struct _|.array _ _=>true|_=>false,i.size)
 |_,_=>none
def zeroOf(t:TypeId):Option Value:=(P.info? t).bind (·.zero)
def eb(t i:Nat):Option (Nat×TypeId):=
 match P.underlying t with
 |some (.struct a)=>(a[i]?).map λf=>(f.offset,f.type)|_=>none
def KQ(t:TypeId):Option (Nat×TypeId):=
 match P.underlying t with
 |some (.array n e)=>some (n,e)|_=>none
def lH(t:TypeId)(cs:List AV)(off:Nat):Option AV:=
 match eO P t with
 |some (true,n)=>if off+n<=cs.length then some (.agg ((cs.drop off).take n))else none|some (false,_)=>cs[off]?|none=>none
def rD(t:TypeId)(x:AV):Bool:=
 match eO P t,x with
 |some (true,n),.agg cs=>cs.length==n|some (false,_),.agg _=>false|some (false,_),.tuple _=>false|some (false,_),.td _ _=>false|some (false,_),.l_ _ _ _=>false|some (false,_),_=>true|_,_=>false
end
def setCells(cs:List AV)(off:Nat)(new:List AV):List AV:=cs.take off++new++cs.drop (off+new.length)
def qb:Value->AV
 |.slice none 0 0=>.slice .full []|.func fn f c=>if f.size=0/\c.size=0 then .func fn [] [] else .undef|.agg _=>.undef|.tuple _=>.undef|v=>if z7 v then .sc v else .undef
def ofValue:Value->AV
 |.agg cs=>.agg (cs.toList.map qb)|.tuple cs=>.tuple (cs.toList.map qb)|v=>qb v
def zG:Value->Bool
 |.agg cs=>cs.all (·.oneCell')|.tuple cs=>cs.all (·.oneCell')|_=>true
def xV(v:Value):(qb v).eD=true:=by
 unfold qb
 split<;>first|rfl|(split<;>rfl)
def D7(F:jY)(G:Nat->Nat)(n:Nat)(v:Value)(h:v.oneCell'=true):fF F G n (qb v) v:=by
 unfold qb
 split
 ·exact .slice (l:=[]) (vs:=[]) (b:=0) (o:=0) (sz:=0) .nil (λ_ _ h=>by simp at h) aa4 aa4 aa4 aa4 (by simp[maxLen]) (.inr ⟨rfl,rfl⟩)
 ·rename_i fn f c
  split
  ·rename_i hs;obtain⟨h1,a⟩:=hs;have d:f=#[]:=Tq h1;have e:c=#[]:=Tq a;subst d;subst e;exact .func (vf:=[]) (vc:=[]) .nil .nil
  ·exact .undef rfl
 ·simp[Value.oneCell'] at h
 ·simp[Value.oneCell'] at h
 ·split
  ·exact .sc (by assumption)
  ·exact .undef h
def qC(F:jY)(G:Nat->Nat)(n:Nat):∀(vs:List Value),(∀v∈vs,v.oneCell'=true)->fq F G n (vs.map qb) vs
 |[],_=>.nil|v::vs,h=>.cons (D7 F G n v (h v aa4)) (qC F G n vs λu hu=>h u (by simp[hu]))
def DS{v:Value}(h:v.oneCell'=true):ofValue v=qb v:=by
 cases v<;>first|rfl|(simp[Value.oneCell'] at h)
def Ci(F:jY)(G:Nat->Nat)(n:Nat)(v:Value)(h:zG v=true):fF F G n (ofValue v) v:=by
 cases v with
 |agg cs=>
  have b:∀v∈cs.toList,v.oneCell'=true:=λv d=>by
   have e:cs.all (·.oneCell')=true:=h
   exact HJ.1 e v (wS.1 d)
  exact .agg (vs:=cs.toList) (qC F G n cs.toList b) (by
   intro c f;obtain⟨a,_,rfl⟩:=l8.1 f
   exact xV a)
 |tuple cs=>
  have b:∀v∈cs.toList,v.oneCell'=true:=λv d=>by
   have e:cs.all (·.oneCell')=true:=h
   exact HJ.1 e v (wS.1 d)
  exact .tuple (vs:=cs.toList) (qC F G n cs.toList b)
 |_=>(rw[DS rfl];exact D7 F G n _ rfl)
section
variable(T:dx) (fr:Fr)
def ev:Operand->AV
 |.tmp t=>fr.env t|.const v=>ofValue v|.global g=>match T g with|some x=>.lG x|none=>.undef
 |.func f=>.func (.func f) [] []
def iD:Operand->Bool
 |.const v=>zG v|_=>true
end
def so(F:jY)(ρ:Maps)(fr:Fr)(a:Act):Prop:=∀t,fG F ρ (fr.env t) (a.tmps.getD t undef)
def xW(T:dx)(F:jY)(ρ:Maps):Prop:=∀g x,T g=some x->fF F ρ.G ρ.n (.lG x) (.pointer (some ⟨g,0,none⟩))
def fI{T:dx}{fr:Fr}{F:jY}{ρ:Maps}{a:Act}(he:so F ρ fr a)(b:xW T F ρ)(x:Operand)(c:iD x=true):fG F ρ (ev T fr x) (a.eval x):=by
 cases x with
 |tmp t=>exact he t|const v=>exact .p (Ci _ _ _ v c)|global g=>
  show fG F ρ (match T g with|some x=>.lG x|none=>.undef) _;cases h:T g with
  |none=>exact .p (.undef rfl)|some x=>exact .p (b g x h)
 |func f=>exact .p (.func (vf:=[]) (vc:=[]) .nil .nil)
def qh(op:BinOp)(k:IntKind)(a b:Int):Option Value:=
 match op with
 |.add=>some (.int k (k.wrap (a+b)))|.sub=>some (.int k (k.wrap (a-b)))|.mul=>some (.int k (k.wrap (a*b)))|.quo=>if b=0 then none else some (.int k (k.wrap (a.tdiv b)))|.rem=>if b=0 then none else some (.int k (a.tmod b))|.and=>some (.int k (k.wrap (BitVec.ofInt k.bits a&&&BitVec.ofInt k.bits b).toNat))|.or=>some (.int k (k.wrap (BitVec.ofInt k.bits a|||BitVec.ofInt k.bits b).toNat))|.xor=>some (.int k (k.wrap (BitVec.ofInt k.bits a^^^BitVec.ofInt k.bits b).toNat))|.andNot=>some (.int k (k.wrap (BitVec.ofInt k.bits a&&&~~~BitVec.ofInt k.bits b).toNat))|.eql=>some (.bool (a==b))|.neq=>some (.bool (a !=b))|.lss=>some (.bool (a<b))|.leq=>some (.bool (a<=b))|.gtr=>some (.bool (a>b))|.geq=>some (.bool (a>=b))|_=>none
def Ki(op:BinOp)(x y:ByteArray):Option Value:=
 match op with
 |.add=>if((x.size+y.size:Nat):Int)>IntKind.i64.max then none else some (.string (x++y))|.eql=>some (.bool (x.toList==y.toList))|.neq=>some (.bool !(x.toList==y.toList))|.lss=>some (.bool (Op.bytesLess x.toList y.toList))|.leq=>some (.bool (Op.bytesLess x.toList y.toList||x.toList==y.toList))|.gtr=>some (.bool !(Op.bytesLess x.toList y.toList||x.toList==y.toList))|.geq=>some (.bool !(Op.bytesLess x.toList y.toList))|_=>none
def B6:AV->Bool
 |.lG _|.fC _ _ _|.dM _ _=>true|_=>false
def rJ(P:Program)(op:BinOp)(t:TypeId)(x y:AV):Option AV:=
 match op,x,y with
 |.shl,.sc (.int k a),.sc (.int _ b)=>if b<0 then none else some (.sc (.int k (k.wrap (a*2^min b.toNat k.bits))))|.shr,.sc (.int k a),.sc (.int _ b)=>if b<0 then none else some (.sc (.int k (a.fdiv (2^min b.toNat k.bits))))|op,.sc (.int k a),.sc (.int k' b)=>if k=k' then(qh op k a b).map .sc else none|op,.sc (.string a),.sc (.string b)=>(Ki op a b).map .sc|.eql,.sc (.bool a),.sc (.bool b)=>match P.underlying t with|some .bool=>some (.sc (.bool (a==b)))|_=>none
 |.neq,.sc (.bool a),.sc (.bool b)=>match P.underlying t with|some .bool=>some (.sc (.bool (!(a==b))))|_=>none
 |.eql,x,.sc (.pointer none)=>match P.underlying t with
  |some (.pointer _)=>if B6 x then some (.sc (.bool false))else(match x with|.sc (.pointer none)=>some (.sc (.bool true))|_=>none)
  |_=>none
 |.neq,x,.sc (.pointer none)=>match P.underlying t with
  |some (.pointer _)=>if B6 x then some (.sc (.bool true))else(match x with|.sc (.pointer none)=>some (.sc (.bool false))|_=>none)
  |_=>none
 |.eql,.func _ _ _,.sc .nilFunc=>match P.underlying t with|some (.func ..)=>some (.sc (.bool false))|_=>none
 |.neq,.func _ _ _,.sc .nilFunc=>match P.underlying t with|some (.func ..)=>some (.sc (.bool true))|_=>none
 |.eql,.sc .nilFunc,.sc .nilFunc=>match P.underlying t with|some (.func ..)=>some (.sc (.bool true))|_=>none
 |.neq,.sc .nilFunc,.sc .nilFunc=>match P.underlying t with|some (.func ..)=>some (.sc (.bool false))|_=>none
 |_,_,_=>none
def Yv(op:UnOp)(x:AV):Option AV:=
 match op,x with
 |.neg,.sc (.int k n)=>some (.sc (.int k (k.wrap (0-n))))|.not,.sc (.bool b)=>some (.sc (.bool !b))|_,_=>none
def fh{F:jY}{ρ:Maps}{u v:Value}(h:fG F ρ (.sc u) v):v=u:=by
 cases h with
 |cell h=>cases h with|p h=>cases h;rfl
def G4(P:Program)(w:World){op:BinOp}{k:IntKind}{a b:Int}{v:Value}(t:TypeId)(h:qh op k a b=some v):(binOp op t (.int k a) (.int k b)).run P w=.ok v w/\z7 v=true:=by
 cases op<;>simp only[qh,sy,reduceCtorEq] at h<;>(try(split at h))<;>
  (first
   |(subst h;refine⟨?_,rfl⟩;simp[binOp,Op.intArith,Op.intBits,Op.intCmp,Op.intDiv, *])
   |(cases h;refine⟨?_,rfl⟩;simp[binOp,Op.intArith,Op.intBits,Op.intCmp,Op.intDiv, *])
   |cases h)
def GJ(P:Program)(w:World){op:BinOp}{a b:ByteArray}{v:Value}(t:TypeId)(h:Ki op a b=some v):(binOp op t (.string a) (.string b)).run P w=.ok v w/\z7 v=true:=by
 cases op<;>simp only[Ki,sy,reduceCtorEq] at h<;>(try(split at h))<;>
  (first
   |(subst h;refine⟨?_,rfl⟩;simp[binOp,Op.stringOp, *])
   |(cases h;refine⟨?_,rfl⟩;simp_all [binOp,Op.stringOp])
   |cases h)
def DP{F:jY}{ρ:Maps}{x:AV}{v:Value}(b:B6 x=true)(h:fG F ρ x v):∃a,v=.pointer (some a):=by
 cases h with
 |agg h1 c=>simp[B6] at b
 |cell h=>
  cases h with
  |fC h=>exact⟨_,rfl⟩|loc h1 c d=>simp[B6] at b
  |vM h1 c d=>simp[B6] at b
  |p h=>cases h<;>first|(simp[B6] at b;done)|exact⟨_,rfl⟩
def xl{P:Program}{t e:TypeId}(h:P.underlying t=some (.pointer e)):P.underlying t=some (.pointer (P.pointee t)):=by
 simp[Program.pointee,h]
def zN{F:jY}{ρ:Maps}{fn:Fn}{f c:List AV}{v:Value}(h:fG F ρ (.func fn f c) v):∃vf vc:List Value,v=.func fn vf.toArray vc.toArray/\f_ (fF F ρ.G ρ.n) f vf/\f_ (fF F ρ.G ρ.n) c vc:=by
 cases h with
 |cell h=>cases h with
  |p h=>cases h with|func h1 a=>exact⟨_,_,rfl,h1.sF,a.sF⟩
def Ol(P:Program)(w:World){t:TypeId}{ps rs:Array TypeId}{b:Bool}(hu:P.underlying t=some (.func ps rs b))(fn:Fn)(f c:Array Value):(binOp .eql t (.func fn f c) .nilFunc).run P w=.ok (.bool false) w/\(binOp .neq t (.func fn f c) .nilFunc).run P w=.ok (.bool true) w:=by
 have h:∀d,(Op.equalIn (d+1) t (.func fn f c) .nilFunc).run P w=.ok false w:=λd=>by simp[Op.equalIn,run_underlying hu]
 have a:binOp .eql t (.func fn f c) .nilFunc=(do pure (.bool (<-Op.equalIn (9999+1) t (.func fn f c) .nilFunc))):=rfl;have e:binOp .neq t (.func fn f c) .nilFunc=(do pure (.bool (!(<-Op.equalIn (9999+1) t (.func fn f c) .nilFunc)))):=rfl;rw[a,e,gb,gb,h 9999];exact⟨rfl,rfl⟩
def Ot(P:Program)(w:World){t:TypeId}{ps rs:Array TypeId}{b:Bool}(hu:P.underlying t=some (.func ps rs b)):(binOp .eql t .nilFunc .nilFunc).run P w=.ok (.bool true) w/\(binOp .neq t .nilFunc .nilFunc).run P w=.ok (.bool false) w:=by
 have h:∀d,(Op.equalIn (d+1) t .nilFunc .nilFunc).run P w=.ok true w:=λd=>by simp[Op.equalIn,run_underlying hu]
 have a:binOp .eql t .nilFunc .nilFunc=(do pure (.bool (<-Op.equalIn (9999+1) t .nilFunc .nilFunc))):=rfl;have c:binOp .neq t .nilFunc .nilFunc=(do pure (.bool (!(<-Op.equalIn (9999+1) t .nilFunc .nilFunc)))):=rfl;rw[a,c,gb,gb,h 9999];exact⟨rfl,rfl⟩
def JP:Value->Bool
 |.nilIface=>false|.agg _=>false|_=>true
def LF(P:Program)(w:World)(op:BinOp)(t:TypeId)(x y:Operand){u v:Value}(h:JP u=true):(eqGuard op t x y u v).run P w=.ok () w:=by
 unfold eqGuard
 cases u<;>first|(simp[JP] at h;done)|(cases op<;>rfl)
def O_(P:Program)(w:World){F:jY}{ρ:Maps}{op:BinOp}{t:TypeId}{x y r:AV}{u v:Value}(h:rJ P op t x y=some r)
  (b:fG F ρ x u) (hy:fG F ρ y v):∃z,(binOp op t u v).run P w=.ok z w/\r=.sc z/\z7 z=true/\JP u=true:=by
 unfold rJ at h
 split at h
 ·cases fh b;cases fh hy
  split at h
  ·cases h
  ·rename_i c;cases h;exact⟨_,by simp[binOp,Op.shift,c],rfl,rfl,rfl⟩
 ·cases fh b;cases fh hy
  split at h
  ·cases h
  ·rename_i c;cases h;exact⟨_,by simp[binOp,Op.shift,c],rfl,rfl,rfl⟩
 ·cases fh b;cases fh hy
  split at h
  ·rename_i e;subst e;cases hi:qh op _ _ _ with
   |none=>rw[hi] at h;cases h
   |some z=>
    rw[hi] at h;cases h;exact⟨z,(G4 P w t hi).1,rfl,(G4 P w t hi).2,rfl⟩
  ·cases h
 ·cases fh b;cases fh hy;cases hi:Ki op _ _ with
  |none=>rw[hi] at h;cases h
  |some z=>
   rw[hi] at h;cases h;exact⟨z,(GJ P w t hi).1,rfl,(GJ P w t hi).2,rfl⟩
 ·cases fh b;cases fh hy
  split at h
  ·rename_i hu;cases h;exact⟨_,run_eql_bool w t _ _ hu,rfl,rfl,rfl⟩
  ·cases h
 ·cases fh b;cases fh hy
  split at h
  ·rename_i hu;cases h;exact⟨_,run_neq_bool w t _ _ hu,rfl,rfl,rfl⟩
  ·cases h
 ·cases fh hy
  split at h
  ·rename_i hu
   split at h
   ·rename_i d;obtain⟨a,rfl⟩:=DP d b;cases h;exact⟨_,run_eql_pointer_nil w t _ (xl hu),aa4,rfl,rfl⟩
   ·split at h
    ·cases fh b;cases h;exact⟨_,run_eql_pointer_nil w t _ (xl hu),aa4,rfl,rfl⟩
    ·cases h
  ·cases h
 ·cases fh hy
  split at h
  ·rename_i hu
   split at h
   ·rename_i d;obtain⟨a,rfl⟩:=DP d b;cases h;exact⟨_,run_neq_pointer_nil w t _ (xl hu),aa4,rfl,rfl⟩
   ·split at h
    ·cases fh b;cases h;exact⟨_,run_neq_pointer_nil w t _ (xl hu),aa4,rfl,rfl⟩
    ·cases h
  ·cases h
 ·cases fh hy;obtain⟨vf,vc,rfl,_,_⟩:=zN b
  split at h
  ·rename_i hu;cases h;exact⟨.bool false,(Ol P w hu _ _ _).1,rfl,rfl,rfl⟩
  ·cases h
 ·cases fh hy;obtain⟨vf,vc,rfl,_,_⟩:=zN b
  split at h
  ·rename_i hu;cases h;exact⟨.bool true,(Ol P w hu _ _ _).2,rfl,rfl,rfl⟩
  ·cases h
 ·cases fh b;cases fh hy
  split at h
  ·rename_i hu;cases h;exact⟨.bool true,(Ot P w hu).1,rfl,rfl,rfl⟩
  ·cases h
 ·cases fh b;cases fh hy
  split at h
  ·rename_i hu;cases h;exact⟨.bool false,(Ot P w hu).2,rfl,rfl,rfl⟩
  ·cases h
 ·cases h
end Go.ke
namespace Go.ke
open Go
def nI{l:List AV}{sz:Nat}(h:∀x∈l,x.cells.length=sz):(l.flatMap AV.cells).length=l.length*sz:=by
 induction l with
 |nil=>simp|cons x l a=>
  rw[vP,oJ,a λy hy=>h y (by simp[hy]),h x aa4,kN,xu,S3,WQ]
def CH{l:List AV}{sz:Nat}(h:∀x∈l,x.cells.length=sz)(n:Nat):(l.take n).flatMap AV.cells=(l.flatMap AV.cells).take (n*sz):=by
 induction l generalizing n with
 |nil=>simp|cons x l a=>
  cases n with
  |zero=>simp|succ n=>
   have b:=h x aa4
   rw[List.take_succ_cons,vP,vP,a (λy hy=>h y (by simp[hy])),xu,S3,List.take_append,b,PU (l:=x.cells) VW,TZ]
def xC{l:List AV}{sz:Nat}(h:∀x∈l,x.cells.length=sz)(n:Nat):(l.drop n).flatMap AV.cells=(l.flatMap AV.cells).drop (n*sz):=by
 induction l generalizing n with
 |nil=>simp|cons x l a=>
  cases n with
  |zero=>simp|succ n=>
   have b:=h x aa4
   rw[List.drop_succ_cons,vP,a (λy hy=>h y (by simp[hy])),xu,S3,TD,b,Da (as:=x.cells) VW,TZ,mR]
def D3{l:List AV}{sz:Nat}(h:∀x∈l,x.cells.length=sz){i:Nat}{x:AV}(hi:l[i]?=some x):((l.flatMap AV.cells).drop (i*sz)).take sz=x.cells:=by
 have h1:=xC h i;have a:i<l.length:=(kj.1 hi).1
 have hd:l.drop i=x::l.drop (i+1):=by
  have:=JK a;rw[this]
  congr 1
  exact(kj.1 hi).2
 rw[<-h1,hd,vP,List.take_append,PU (by have:=h x (z6 hi);omega)];simp[h x (z6 hi)]
def jY.has.drop{F:jY}{b o:Nat}{vs:List Value}(h:F.has b o vs)(n:Nat):F.has b (o+n) (vs.drop n):=by
 intro i v a;rw[Js] at a;have:=h _ v a
 rwa [<-MX] at this
def jY.has.take{F:jY}{b o:Nat}{vs:List Value}(h:F.has b o vs)(n:Nat):F.has b o (vs.take n):=by
 intro i v a;rw[DG] at a
 split at a
 ·exact h i v a
 ·cases a
section
variable{F:jY} {G:Nat->Nat} {n:Nat}
def fq.drop{xs vs}(h:fq F G n xs vs)(k:Nat):fq F G n (xs.drop k) (vs.drop k):=.m6 (h.sF.drop k)
def fq.take{xs vs}(h:fq F G n xs vs)(k:Nat):fq F G n (xs.take k) (vs.take k):=.m6 (h.sF.take k)
def fq.get{xs vs}(h:fq F G n xs vs){i:Nat}{x:AV}(a:xs[i]?=some x):∃v,vs[i]?=some v/\fF F G n x v:=h.sF.get a
def fq.length{xs vs}(h:fq F G n xs vs):xs.length=vs.length:=h.sF.length
def fq.append{xs vs a vs'}(h:fq F G n xs vs)(b:fq F G n a vs'):fq F G n (xs++a) (vs++vs'):=.m6 (h.sF.append b.sF)
end
def AV.zP{x:AV}(h:x.eD=true):x.cells=[x]:=by cases x<;>first|rfl|(simp[AV.eD] at h)
section
variable{P:Program}
def Ed{t:TypeId}{b:Bool}{n:Nat}(h:eO P t=some (b,n)):∃d i,P.underlying t=some d/\P.info? t=some i/\i.size=n/\(match d with|.struct _|.array _ _=>true|_=>false)=b:=by
 unfold eO at h
 split at h
 ·rename_i d i hd hi;injection h with h;injection h with h1 a;exact⟨d,i,hd,hi,a,h1⟩
 ·cases h
def jW{t:TypeId}{b:Bool}{n:Nat}(h:eO P t=some (b,n))(w:World):(sizeOf t).run P w=.ok n w:=by
 obtain⟨d,i,hd,hi,hn,_⟩:=Ed h;simp[sizeOf,typeInfo,hi,hn]
def xr{t:TypeId}{b:Bool}{n:Nat}(h:eO P t=some (b,n))(w:World):(isAgg t).run P w=.ok b w:=by
 obtain⟨d,i,hd,hi,hn,a⟩:=Ed h;subst a;unfold isAgg;rw[gb,run_underlying hd];cases d<;>rfl
def yY{t:TypeId}{cs:List AV}{off:Nat}{z:AV}(h:lH P t cs off=some z):(∃k,eO P t=some (true,k)/\off+k<=cs.length/\z=.agg ((cs.drop off).take k))\/(∃k,eO P t=some (false,k)/\cs[off]?=some z):=by
 unfold lH at h
 split at h
 ·split at h
  ·rename_i k a hle;injection h with h;exact .inl ⟨k,a,hle,h.symm⟩
  ·cases h
 ·rename_i k a;exact .inr ⟨k,a,h⟩
 ·cases h
def yf{t:TypeId}{k:Nat}(h:eO P t=some (true,k))(w:World)(a:Addr)(vs:List Value)(b:vs.length=k)
  (c:∀j v,vs[j]?=some v->w.cell? (a.add j)=some v):(loadVar t a).run P w=.ok (.agg vs.toArray) w:=by
 unfold loadVar;rw[gb,xr h];simp only[iS,if_true];rw[gb,jW h,iS,gb,<-b,run_loadCells_list w a vs c];rfl
def yd{t:TypeId}{k:Nat}(h:eO P t=some (false,k))(w:World)(a:Addr)(v:Value)(b:w.cell? a=some v):(loadVar t a).run P w=.ok v w:=by
 unfold loadVar;rw[gb,xr h];simp[load,Sem.run,b]
end
def qR(P:Program)(t:TypeId)(x:AV)(i:Nat):Option AV:=
 match eb P t i with
 |none=>none|some (off,a)=>
  match eO P a with
  |none=>none|some (_,n)=>
   if n=0 then none else
   match x with
   |.fC b g o=>some (.fC b g (o+off))|.dM o f=>some (.dM o (f+off))|.lG y=>(lH P a y.cells off).map .lG|_=>none
def Bc(P:Program)(t:TypeId)(x:AV)(i:Nat):Option AV:=
 match eb P t i,x with
 |some (off,a),.agg cs=>lH P a cs off|_,_=>none
def fl(P:Program)(t:TypeId)(x i:AV):Option AV:=
 match i with
 |.sc (.int _ n)=>
  match P.underlying t,x with
  |some (.slice e),.slice _ l=>
   if 0<=n then
    match l[n.toNat]?,eO P e with
    |some y,some (_,sz)=>if y.cells.length=sz then some (.lG y)else none|_,_=>none
   else none
  |some (.slice e),.vM b g len _=>
   match eO P e with
   |some (_,sz)=>if 0<=n/\n<len then some (.fC b g (n.toNat*sz))else none|none=>none
  |some (.slice e),.pQ b off len _=>
   match eO P e with
   |some (_,sz)=>if 0<=n/\n<len then some (.dM b (off+n.toNat*sz))else none|none=>none
  |some (.array len e),.fC b g o=>
   match eO P e with
   |some (_,sz)=>if 0<=n/\n<len then some (.fC b g (o+n.toNat*sz))else none|none=>none
  |some (.array len e),.dM a o=>
   match eO P e with
   |some (_,sz)=>if 0<=n/\n<len then some (.dM a (o+n.toNat*sz))else none|none=>none
  |some (.array len e),.lG y=>
   match eO P e with
   |some (_,sz)=>if 0<=n/\n<len then(lH P e y.cells (n.toNat*sz)).map .lG else none|none=>none
  |_,_=>none
 |_=>none
def NN(P:Program)(t:TypeId)(x i:AV):Option AV:=
 match i with
 |.sc (.int _ n)=>
  match P.underlying t,x with
  |some .string,.sc (.string s)=>if 0<=n then(s[n.toNat]?).map λb=>.sc (.int .u8 b.toNat)else none|some (.array len e),.agg cs=>
   match eO P e with
   |some (_,sz)=>if 0<=n/\n<len then lH P e cs (n.toNat*sz)else none|none=>none
  |_,_=>none
 |_=>none
section
variable{P:Program} {F:jY} {ρ:Maps}
def BH{cs:List AV}{v:Value}(h:fG F ρ (.agg cs) v):∃vs:List Value,v=.agg vs.toArray/\f_ (iL F ρ) cs vs/\∀c∈cs,c.eD=true:=by
 cases h with
 |agg h1 a=>exact⟨_,rfl,h1,a⟩|cell h=>cases h with
  |p h=>cases h with|agg h1 a=>exact⟨_,rfl,h1.sF.mono λ_ _ _ h=>.p h,a⟩
def M_{cs:List AV}{v:Value}(h:fG F ρ (.tuple cs) v):∃vs:List Value,v=.tuple vs.toArray/\f_ (fF F ρ.G ρ.n) cs vs:=by
 cases h with
 |cell h=>cases h with
  |p h=>cases h with|tuple h1=>exact⟨_,rfl,h1.sF⟩
def w8{b g off:Nat}{v:Value}(h:fG F ρ (.fC b g off) v):v=.pointer (some ⟨ρ.L b g,off,none⟩)/\g<=ρ.lg b:=by
 cases h with
 |cell h=>cases h with
  |p h=>cases h
  |fC h=>exact⟨rfl,h⟩
def ui{o off:Nat}{v:Value}(h:fG F ρ (.dM o off) v):v=.pointer (some ⟨ρ.G o,off,none⟩)/\o<ρ.n:=by
 cases h with
 |cell h=>cases h with
  |p h=>cases h with|dM h=>exact⟨rfl,h⟩
def Dv{x:AV}{v:Value}(h:fG F ρ (.lG x) v):∃b o vs,v=.pointer (some ⟨b,o,none⟩)/\fq F ρ.G ρ.n x.cells vs/\F.has b o vs/\∀c∈x.cells,c.eD=true:=by
 cases h with
 |cell h=>cases h with
  |p h=>cases h with|lG h1 a d=>exact⟨_,_,_,rfl,h1,a,d⟩
def zt{b g len cap:Nat}{v:Value}(h:fG F ρ (.vM b g len cap) v):v=.slice (some ⟨ρ.L b g,0,none⟩) len cap/\g<=ρ.lg b/\len<=cap/\cap<=maxLen:=by
 cases h with
 |cell h=>cases h with
  |p h=>cases h
  |vM h1 a c=>exact⟨rfl,h1,a,c⟩
def CG{o off len cap:Nat}{v:Value}(h:fG F ρ (.pQ o off len cap) v):v=.slice (some ⟨ρ.G o,off,none⟩) len cap/\o<ρ.n/\len<=cap/\cap<=maxLen:=by
 cases h with
 |cell h=>cases h with
  |p h=>cases h with|pQ h1 a b=>exact⟨rfl,h1,a,b⟩
structure T1 (F:jY) (ρ:Maps) (l:List AV) (base:Option Addr) (cap b o sz:Nat) (vs:List Value):Prop where
 cells:fq F ρ.G ρ.n (l.flatMap AV.cells) vs
 has:F.has b o vs
 base:l≠[]->base=some ⟨b,o,none⟩
 sz:∀x∈l,x.cells.length=sz
 qS:∀c∈l.flatMap AV.cells,c.eD=true
 xt:l.length<=cap
 CV:cap<=maxLen
def fF.IK{G:Nat->Nat}{n:Nat}{tag:Tag}{l:List AV}{v:Value}(h:fF F G n (.slice tag l) v):∃base cap b o sz vs,v=.slice base l.length cap/\fq F G n (l.flatMap AV.cells) vs/\F.has b o vs/\(l≠[]->base=some ⟨b,o,none⟩)/\(∀x∈l,x.cells.length=sz)/\(∀c∈l.flatMap AV.cells,c.eD=true)/\l.length<=cap/\cap<=maxLen/\(tag=.hY\/tag=.full/\cap=l.length):=by
 cases h with|slice h1 a d e f g i j=>exact⟨_,_,_,_,_,_,rfl,h1,a,d,e,f,g,i,j⟩
def m4{tag:Tag}{l:List AV}{v:Value}(h:fG F ρ (.slice tag l) v):∃base cap b o sz vs,v=.slice base l.length cap/\T1 F ρ l base cap b o sz vs/\(tag=.full->cap=l.length)/\(∀k g,tag=.loc k g->g<=ρ.ag k/\su ρ k g l base cap):=by
 cases h with
 |cell h=>cases h with
  |p h=>
   obtain⟨base,cap,b,o,sz,vs,rfl,h1,a,c,d,e,f,i,h8⟩:=h.IK;refine⟨base,cap,b,o,sz,vs,rfl,⟨h1,a,c,d,e,f,i⟩,?_,?_⟩
   ·rintro rfl;rcases h8 with h8|h8
    ·cases h8
    ·exact h8.2
   ·rintro k g rfl;rcases h8 with h8|h8
    ·cases h8
    ·cases h8.1
  |loc h1 a c=>
   obtain⟨base,cap,b,o,sz,vs,he,h1,j,m,d,e,f,i,h8⟩:=h1.IK;injection he with n q r;subst n;subst r;refine⟨_,_,b,o,sz,vs,rfl,⟨h1,j,m,d,e,f,i⟩,(by intro h;cases h),?_⟩;rintro k g he;injection he with n q;subst n;subst q;exact⟨a,c⟩
def IP{G:Nat->Nat}{n:Nat}{cs:List AV}{vs:List Value}{b o:Nat}{t:TypeId}{off:Nat}{z:AV}(h1:fq F G n cs vs)(e:F.has b o vs)(f:∀c∈cs,c.eD=true)
  (g:lH P t cs off=some z):fF F G n (.lG z) (.pointer (some ⟨b,o+off,none⟩)):=by
 rcases yY g with⟨k,h,hle,rfl⟩|⟨k,h,d⟩
 ·exact .lG ((h1.drop off).take k) ((e.drop off).take k) (λc d=>f c (EL (Ab d)))
 ·obtain⟨v,j,l⟩:=h1.get d;have a:=f z (z6 d);refine .lG (vs:=[v]) (by rw[AV.zP a];exact .cons l .nil) ?_ (by rw[AV.zP a];simpa using a);intro i u hu;cases i with
  |zero=>simp at hu;subst hu;exact e off _ j
  |succ i=>simp at hu
def Hk(w:World){t:TypeId}{x r:AV}{u:Value}{i:Nat}(h:qR P t x i=some r)(j:fG F ρ x u):∃v,(Instr.fieldAt t u i).run P w=.ok v w/\fG F ρ r v:=by
 unfold qR at h
 split at h
 ·cases h
 ·rename_i off l c
  split at h
  ·cases h
  ·rename_i agg n m
   split at h
   ·cases h
   ·rename_i hn
    have e:∃d f,P.underlying t=some (.struct d)/\d[i]?=some f/\f.offset=off/\f.type=l:=by
     unfold eb at c
     split at c
     ·rename_i d hu;cases a:d[i]?with
      |none=>rw[a] at c;cases c
      |some f=>
       rw[a] at c;simp at c;exact⟨d,f,hu,a,c.1,c.2⟩
     ·cases c
    obtain⟨d,f,hu,a,rfl,rfl⟩:=e
    have key:∀b o:Nat,(Instr.fieldAt t (.pointer (some ⟨b,o,none⟩)) i).run P w=.ok (.pointer (some ⟨b,o+f.offset,none⟩)) w:=by
     intro b o;unfold Instr.fieldAt;rw[gb,run_underlying hu,iS];simp only[a,Instr.sureAddr,gb,ou,iS,fieldPlace,jW m,hn,kY,Addr.add_lit]
    split at h
    ·rename_i b g o;cases h;obtain⟨rfl,hg⟩:=w8 j;exact⟨_,key _ _,.cell (.fC hg)⟩
    ·rename_i o A;cases h;obtain⟨rfl,hg⟩:=ui j;exact⟨_,key _ _,.p (.dM hg)⟩
    ·rename_i y;obtain⟨b,o,vs,rfl,h1,q,s⟩:=Dv j;cases k:lH P f.type y.cells f.offset with
     |none=>rw[k] at h;cases h
     |some z=>
      rw[k] at h;cases h;exact⟨_,key _ _,.p (IP h1 q s k)⟩
    ·cases h
def BG(w:World){t:TypeId}{cs:List AV}{vs:List Value}{off:Nat}{z:AV}(h1:f_ (iL F ρ) cs vs)(d:∀c∈cs,c.eD=true)(e:lH P t cs off=some z):∃v,(part t vs.toArray off).run P w=.ok v w/\fG F ρ z v:=by
 rcases yY e with⟨k,a,hle,rfl⟩|⟨k,a,b⟩
 ·refine⟨.agg ((vs.drop off).take k).toArray,?_,.agg ((h1.drop off).take k) (λc b=>d c (EL (Ab b)))⟩;unfold part;rw[gb,xr a];simp only[iS,if_true,gb,jW a,ou]
  congr 3
  simp[List.drop_take]
 ·obtain⟨v,f,g⟩:=h1.get b;refine⟨v,?_,.cell g⟩;unfold part;rw[gb,xr a];simp[f]
def PS(w:World){t:TypeId}{x r:AV}{u:Value}{i:Nat}(h:Bc P t x i=some r)(e:fG F ρ x u):∃v,(Instr.field t u i).run P w=.ok v w/\fG F ρ r v:=by
 unfold Bc at h
 split at h
 ·rename_i off g cs b;obtain⟨vs,rfl,h1,j⟩:=BH e
  have d:∃c f,P.underlying t=some (.struct c)/\c[i]?=some f/\f.offset=off/\f.type=g:=by
   unfold eb at b
   split at b
   ·rename_i c hu;cases a:c[i]?with
    |none=>rw[a] at b;cases b
    |some f=>
     rw[a] at b;simp at b;exact⟨c,f,hu,a,b.1,b.2⟩
   ·cases b
  obtain⟨c,f,hu,a,rfl,rfl⟩:=d;obtain⟨v,k,l⟩:=BG w h1 j h;refine⟨v,?_,l⟩;unfold Instr.field;rw[gb,run_underlying hu,iS];simp only[a,asAgg,gb,ou,iS,k]
 ·cases h
def HM(w:World){t:TypeId}{x i r:AV}{u j:Value}(h:fl P t x i=some r)(m:fG F ρ x u)(hi:fG F ρ i j):∃v,(Instr.indexAt t u j).run P w=.ok v w/\fG F ρ r v:=by
 unfold fl at h
 split at h
 ·rename_i k n;cases fh hi
  split at h
  ·rename_i e tag l hu
   split at h
   ·rename_i hn
    split at h
    ·rename_i y agg sz hy a
     split at h
     ·rename_i s;cases h;obtain⟨base,cap,b,o,d,vs,rfl,hs,_,_⟩:=m4 m;have A:n.toNat<l.length:=(kj.1 hy).1
      have B:l≠[]:=by rintro rfl;simp at A
      have f:=z6 hy
      have q:d=sz:=by rw[<-hs.sz y f,s]
      subst q;rw[hs.base B];refine⟨.pointer (some ⟨b,o+n.toNat*d,none⟩),?_,.p (.lG (vs:=(vs.drop (n.toNat*d)).take d) ?_ ?_ ?_)⟩
      ·unfold Instr.indexAt;simp only[asIntOf,gb,ou,iS,run_underlying hu];rw[cO ⟨hn,VW⟩];simp only[gb,ou,iS,jW a,Addr.add_lit]
      ·rw[<-D3 hs.sz hy];exact(hs.cells.drop _).take _
      ·exact(hs.has.drop _).take _
      ·intro c D;exact hs.qS c (Sl.2 ⟨y,f,D⟩)
     ·cases h
    ·cases h
   ·cases h
  ·rename_i e b g len cap hu
   split at h
   ·rename_i agg sz a
    split at h
    ·rename_i hn;cases h;obtain⟨rfl,hg,_,_⟩:=zt m;refine⟨.pointer (some ⟨ρ.L b g,n.toNat*sz,none⟩),?_,.cell (.fC hg)⟩;unfold Instr.indexAt;simp only[asIntOf,gb,ou,iS,run_underlying hu];rw[cO ⟨hn.1,VW⟩];simp only[gb,ou,iS,jW a,Addr.add_lit,r_]
    ·cases h
   ·cases h
  ·rename_i e b off len cap hu
   split at h
   ·rename_i agg sz a
    split at h
    ·rename_i hn;cases h;obtain⟨rfl,hg,_,_⟩:=CG m;refine⟨.pointer (some ⟨ρ.G b,off+n.toNat*sz,none⟩),?_,.p (.dM hg)⟩;unfold Instr.indexAt;simp only[asIntOf,gb,ou,iS,run_underlying hu];rw[cO ⟨hn.1,VW⟩];simp only[gb,ou,iS,jW a,Addr.add_lit]
    ·cases h
   ·cases h
  ·rename_i len e b g o hu
   split at h
   ·rename_i agg sz a
    split at h
    ·rename_i hn;cases h;obtain⟨rfl,hg⟩:=w8 m;refine⟨.pointer (some ⟨ρ.L b g,o+n.toNat*sz,none⟩),?_,.cell (.fC hg)⟩;unfold Instr.indexAt;simp only[asIntOf,Instr.sureAddr,gb,ou,iS,run_underlying hu];rw[cO hn];simp only[gb,ou,iS,jW a,Addr.add_lit]
    ·cases h
   ·cases h
  ·rename_i len e E o hu
   split at h
   ·rename_i agg sz a
    split at h
    ·rename_i hn;cases h;obtain⟨rfl,hg⟩:=ui m;refine⟨.pointer (some ⟨ρ.G E,o+n.toNat*sz,none⟩),?_,.p (.dM hg)⟩;unfold Instr.indexAt;simp only[asIntOf,Instr.sureAddr,gb,ou,iS,run_underlying hu];rw[cO hn];simp only[gb,ou,iS,jW a,Addr.add_lit]
    ·cases h
   ·cases h
  ·rename_i len e y hu
   split at h
   ·rename_i agg sz a
    split at h
    ·rename_i hn;obtain⟨b,o,vs,rfl,h1,H,I⟩:=Dv m;cases C:lH P e y.cells (n.toNat*sz)with
     |none=>rw[C] at h;cases h
     |some z=>
      rw[C] at h;cases h;refine⟨.pointer (some ⟨b,o+n.toNat*sz,none⟩),?_,.p (IP h1 H I C)⟩;unfold Instr.indexAt;simp only[asIntOf,Instr.sureAddr,gb,ou,iS,run_underlying hu];rw[cO hn];simp only[gb,ou,iS,jW a,Addr.add_lit]
    ·cases h
   ·cases h
  ·cases h
 ·cases h
def PA(w:World){t:TypeId}{x i r:AV}{u j:Value}(h:NN P t x i=some r)(c:fG F ρ x u)(hi:fG F ρ i j):∃v,(Instr.index t u j).run P w=.ok v w/\fG F ρ r v:=by
 unfold NN at h
 split at h
 ·rename_i k n;cases fh hi
  split at h
  ·rename_i s hu;cases fh c
   split at h
   ·rename_i hn;cases a:s[n.toNat]?with
    |none=>rw[a] at h;cases h
    |some b=>
     rw[a] at h;cases h;refine⟨.int .u8 b.toNat,?_,.p (.sc rfl)⟩;unfold Instr.index;simp[asIntOf,run_underlying hu,hn,a]
   ·cases h
  ·rename_i len e cs hu
   split at h
   ·rename_i agg sz d
    split at h
    ·rename_i hn;obtain⟨vs,rfl,h1,f⟩:=BH c;obtain⟨v,g,l⟩:=BG w h1 f h;refine⟨v,?_,l⟩;unfold Instr.index;simp only[asIntOf,gb,ou,iS,run_underlying hu];rw[cO hn];simp only[gb,jW d,iS,g]
    ·cases h
   ·cases h
  ·cases h
 ·cases h
end
end Go.ke
