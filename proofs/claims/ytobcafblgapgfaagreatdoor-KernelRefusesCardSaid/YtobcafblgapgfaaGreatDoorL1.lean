/- Part of the proof of KernelRefuses: layer. -/
import Derived.Orders
import Derived.Below
import Derived.Laws.AppendOwn
import Derived.Laws.Cells
import Derived.Laws.CopyRow
import Derived.Laws.Small
import Derived.Laws.Pointers
import Derived.WalkSpells
import Derived.Test.YtobcafblgapgfaaGreatDoorB1
set_option linter.all false
namespace Go.nd
open Go
inductive Tag where
 |iR|full|loc (k g:Nat)
inductive AV where
 |undef|sc (v:Value)|nr (x:AV)|eD (b g off:Nat)|fT (o off:Nat)|slice (tag:Tag) (l:List AV)|agg (cs:List AV)|tuple (vs:List AV)|func (fn:Fn) (first cap:List AV)
 |iface (t:TypeId) (x:AV)|xe (b g len cap:Nat)|om (o:Nat)|tR (ks:List Value) (xs:List AV)|nt (o since:Nat) (seen:List Nat)|zo (o off len cap:Nat)
instance:Inhabited AV:=⟨.undef⟩
def AV.cells:AV->List AV
 |.agg cs=>cs|x=>[x]
def AV.h_:AV->Bool
 |.agg _=>false|.tuple _=>false|.tR _ _=>false|.nt _ _ _=>false|_=>true
def AK:Value->Bool
 |.bool _=>true|.int _ _=>true|.float _ _=>true|.string _=>true|.pointer none=>true|.map none=>true|.nilFunc=>true|.nilIface=>true|_=>false
inductive iC {α β:Type} (R:α->β->Prop):List α->List β->Prop
 |nil:iC R [] []|cons {a b as bs}:R a b->iC R as bs->iC R (a::as) (b::bs)
def iC.length{α β:Type}{R:α->β->Prop}{as:List α}{bs:List β}(h:iC R as bs):as.length=bs.length:=by
 induction h with
 |nil=>rfl|cons _ _ a=>simp[a]
theorem iC.mono{α β:Type}{R S:α->β->Prop}{as:List α}{bs:List β}(h:iC R as bs)(hs:∀a b,a∈as->R a b->S a b):iC S as bs:=by
 induction h with
 |nil=>exact .nil|cons c _ d=>exact .cons (hs _ _ (by simp) c) (d λa b e=>hs a b (by simp[e]))
def iC.append{α β:Type}{R:α->β->Prop}{as a:List α}{bs b:List β}(h:iC R as bs)(c:iC R a b):iC R (as++a) (bs++b):=by
 induction h with
 |nil=>exact c|cons d _ e=>exact .cons d e
def iC.take{α β:Type}{R:α->β->Prop}{as:List α}{bs:List β}(h:iC R as bs)(n:Nat):iC R (as.take n) (bs.take n):=by
 induction h generalizing n with
 |nil=>simp;exact .nil|cons a _ b=>cases n with
  |zero=>exact .nil|succ n=>exact .cons a (b n)
def iC.drop{α β:Type}{R:α->β->Prop}{as:List α}{bs:List β}(h:iC R as bs)(n:Nat):iC R (as.drop n) (bs.drop n):=by
 induction h generalizing n with
 |nil=>simp;exact .nil|cons a b c=>cases n with
  |zero=>exact .cons a b|succ n=>exact c n
def iC.get{α β:Type}{R:α->β->Prop}{as:List α}{bs:List β}(h:iC R as bs){i:Nat}{a:α}(c:as[i]?=some a):∃b,bs[i]?=some b/\R a b:=by
 induction h generalizing i with
 |nil=>simp at c
 |cons d _ e=>cases i with
  |zero=>simp at c;subst c;exact⟨_,rfl,d⟩
  |succ i=>simp at c;simpa using e c
def iC.mem{α β:Type}{R:α->β->Prop}{as:List α}{bs:List β}(h:iC R as bs){b:β}(hb:b∈bs):∃a∈as,R a b:=by
 induction h with
 |nil=>simp at hb
 |cons c _ d=>
  rcases l7.1 hb with rfl|hb
  ·exact⟨_,by simp,c⟩
  ·obtain⟨a,e,f⟩:=d hb;exact⟨a,by simp[e],f⟩
def iC.xt{α α' β:Type}{R:α->β->Prop}{S:α'->β->Prop}{as:List α}{bs:List β}(f:α->α')(h:iC R as bs)(hs:∀a b,a∈as->R a b->S (f a) b):iC S (as.map f) bs:=by
 induction h with
 |nil=>exact .nil|cons c _ d=>exact .cons (hs _ _ (by simp) c) (d λa b e=>hs a b (by simp[e]))
abbrev lN:=Nat->Nat->Option Value
def lN.has(F:lN)(b o:Nat)(vs:List Value):Prop:=∀i v,vs[i]?=some v->F b (o+i)=some v
mutual
inductive ic (F:lN) (G:Nat->Nat) (n:Nat):AV->Value->Prop
 |undef {v}:v.oneCell'=true->ic F G n .undef v|sc {v}:AK v=true->ic F G n (.sc v) v|nr {x b o vs}:hV F G n x.cells vs->F.has b o vs->(∀c∈x.cells,c.h_=true)->ic F G n (.nr x) (.pointer (some ⟨b,o,none⟩))|fT {o off}:o<n->ic F G n (.fT o off) (.pointer (some ⟨G o,off,none⟩))|om {o}:o<n->ic F G n (.om o) (.map (some (G o)))|zo {o off len cap}:o<n->len<=cap->cap<=maxLen->ic F G n (.zo o off len cap) (.slice (some ⟨G o,off,none⟩) len cap)|slice {tag l vs b o base cap sz}:hV F G n (l.flatMap AV.cells) vs->F.has b o vs->(l≠[]->base=some ⟨b,o,none⟩)->(∀x∈l,x.cells.length=sz)->(∀c∈l.flatMap AV.cells,c.h_=true)->l.length<=cap->cap<=maxLen->tag=.iR\/tag=.full/\cap=l.length->ic F G n (.slice tag l) (.slice base l.length cap)|agg {cs vs}:hV F G n cs vs->(∀c∈cs,c.h_=true)->ic F G n (.agg cs) (.agg vs.toArray)|tuple {cs vs}:hV F G n cs vs->ic F G n (.tuple cs) (.tuple vs.toArray)|func {fn f c vf vc}:hV F G n f vf->hV F G n c vc->ic F G n (.func fn f c) (.func fn vf.toArray vc.toArray)|iface {t x v}:ic F G n x v->ic F G n (.iface t x) (.iface t v)
inductive hV (F:lN) (G:Nat->Nat) (n:Nat):List AV->List Value->Prop
 |nil:hV F G n [] []|cons {x v xs vs}:ic F G n x v->hV F G n xs vs->hV F G n (x::xs) (v::vs)
end
section
variable{F F':lN} {G G':Nat->Nat} {n n':Nat}
def hV.uN{xs vs}(h:hV F G n xs vs):iC (ic F G n) xs vs:=by
 induction xs generalizing vs with
 |nil=>cases h;exact .nil
 |cons x xs a=>cases h with|cons b c=>exact .cons b (a c)
def hV.pQ{xs vs}(h:iC (ic F G n) xs vs):hV F G n xs vs:=by
 induction h with
 |nil=>exact .nil|cons a _ b=>exact .cons a b
structure Eo (F F':lN) (G G':Nat->Nat) (n n':Nat):Prop where
 mF:∀b o v,F b o=some v->F' b o=some v
 mn:n<=n'
 mG:∀o,o<n->G' o=G o
def Eo.refl:Eo F F G G n n:=⟨λ_ _ _ h=>h,jw _,λ_ _=>rfl⟩
def lN.has.grow{b o vs}(h:F.has b o vs)(hg:Eo F F' G G' n n'):F'.has b o vs:=λi v a=>hg.mF _ _ _ (h i v a)
mutual
def ic.grow(hg:Eo F F' G G' n n'):∀{x v},ic F G n x v->ic F' G' n' x v
 |_,_,.undef h=>.undef h|_,_,.sc h=>.sc h|_,_,.nr a b c=>.nr (a.grow hg) (b.grow hg) c|_,_,.fT (o:=o) (off:=off) h=>by
  rw[<-hg.mG o h];exact .fT (Qn h hg.mn)
 |_,_,.om (o:=o) h=>by
  rw[<-hg.mG o h];exact .om (Qn h hg.mn)
 |_,_,.zo (o:=o) h b c=>by
  rw[<-hg.mG o h];exact .zo (Qn h hg.mn) b c
 |_,_,.slice a b c d e f g i=>.slice (a.grow hg) (b.grow hg) c d e f g i|_,_,.agg a b=>.agg (a.grow hg) b|_,_,.tuple a=>.tuple (a.grow hg)|_,_,.func a b=>.func (a.grow hg) (b.grow hg)|_,_,.iface a=>.iface (a.grow hg)
def hV.grow(hg:Eo F F' G G' n n'):∀{xs vs},hV F G n xs vs->hV F' G' n' xs vs
 |_,_,.nil=>.nil|_,_,.cons a b=>.cons (a.grow hg) (b.grow hg)
end
def ic.K_{x v}(h:ic F G n x v)(a:x.h_=true):v.oneCell'=true:=by
 cases h with
 |undef h=>exact h|sc h=>revert h;cases v<;>simp[AK,Value.oneCell']
 |agg b c=>simp[AV.h_] at a
 |tuple b=>simp[AV.h_] at a
 |_=>rfl
theorem ic.cells{x v}(h:ic F G n x v)(d:∀vs,x≠ .tuple vs):hV F G n x.cells v.cells.toList:=by
 cases h with
 |undef h=>cases v<;>first|exact .cons (.undef h) .nil|(simp[Value.oneCell'] at h;done)
 |sc h=>cases v<;>first|exact .cons (.sc h) .nil|(simp[AK] at h;done)
 |nr a b c=>exact .cons (.nr a b c) .nil|fT a=>exact .cons (.fT a) .nil|om a=>exact .cons (.om a) .nil|zo a b c=>exact .cons (.zo a b c) .nil|slice a b c e f g i j=>exact .cons (.slice a b c e f g i j) .nil|agg a b=>exact a|tuple a=>exact absurd rfl (d _)|func a b=>exact .cons (.func a b) .nil|iface a=>exact .cons (.iface a) .nil
end
structure Maps where
 G:Nat->Nat
 n:Nat
 L:Nat->Nat->Nat
 lg:Nat->Nat
 A:Nat->Nat->Option (Nat×Nat×Nat)
 ag:Nat->Nat
def tx(ρ:Maps)(k g:Nat)(l:List AV)(base:Option Addr)(cap:Nat):Prop:=
 match ρ.A k g with
 |none=>cap=l.length|some (b,c,sz)=>base=some ⟨b,0,none⟩/\cap=c/\∀x∈l,x.cells.length=sz
inductive ka (F:lN) (ρ:Maps):AV->Value->Prop
 |p {x v}:ic F ρ.G ρ.n x v->ka F ρ x v|eD {b g off}:g<=ρ.lg b->ka F ρ (.eD b g off) (.pointer (some ⟨ρ.L b g,off,none⟩))|loc {k g l base cap}:ic F ρ.G ρ.n (.slice .iR l) (.slice base l.length cap)->g<=ρ.ag k->tx ρ k g l base cap->ka F ρ (.slice (.loc k g) l) (.slice base l.length cap)|xe {b g len cap}:g<=ρ.lg b->len<=cap->cap<=maxLen->ka F ρ (.xe b g len cap) (.slice (some ⟨ρ.L b g,0,none⟩) len cap)
inductive hQ (F:lN) (ρ:Maps):AV->Value->Prop
 |cell {x v}:ka F ρ x v->hQ F ρ x v|agg {cs vs}:iC (ka F ρ) cs vs->(∀c∈cs,c.h_=true)->hQ F ρ (.agg cs) (.agg vs.toArray)
structure uz (F F':lN) (ρ ρ':Maps):Prop where
 g:Eo F F' ρ.G ρ'.G ρ.n ρ'.n
 lg:∀b,ρ.lg b<=ρ'.lg b
 L:∀b g,g<=ρ.lg b->ρ'.L b g=ρ.L b g
 ag:∀k,ρ.ag k<=ρ'.ag k
 A:∀k g,g<=ρ.ag k->ρ'.A k g=ρ.A k g
section
variable{F F':lN} {ρ ρ':Maps}
def ka.grow(hg:uz F F' ρ ρ'){x v}(h:ka F ρ x v):ka F' ρ' x v:=by
 cases h with
 |p h=>exact .p (h.grow hg.g)|eD h=>
  rename_i b g off;rw[<-hg.L b g h];exact .eD (C9 h (hg.lg b))
 |loc d a c=>
  refine .loc (d.grow hg.g) (C9 a (hg.ag _)) ?_;unfold tx;rw[hg.A _ _ a];exact c
 |xe h a c=>
  rename_i b g len cap;rw[<-hg.L b g h];exact .xe (C9 h (hg.lg b)) a c
def hQ.grow(hg:uz F F' ρ ρ'){x v}(h:hQ F ρ x v):hQ F' ρ' x v:=by
 cases h with
 |cell h=>exact .cell (h.grow hg)|agg a b=>exact .agg (a.mono λ_ _ _ h=>h.grow hg) b
def hQ.p{x v}(h:ic F ρ.G ρ.n x v):hQ F ρ x v:=.cell (.p h)
end
def AV.lH:AV->AV
 |.slice _ l=>.slice .iR l|.eD _ _ _=>.undef|.xe _ _ _ _=>.undef|x=>x
def AV.norm:AV->AV
 |.agg cs=>.agg (cs.map AV.lH)|x=>x.lH
section
variable{F F':lN} {ρ ρ':Maps}
def ic.iR{G:Nat->Nat}{n:Nat}{tag l v}(h:ic F G n (.slice tag l) v):ic F G n (.slice .iR l) v:=by
 cases h with
 |slice a b c d e f g i=>exact .slice a b c d e f g (.inl rfl)
def ic.lH{G:Nat->Nat}{n:Nat}{x v}(h:ic F G n x v):ic F G n x.lH v:=by
 cases x with
 |slice tag l=>exact h.iR|eD b g off=>cases h
 |xe b g len cap=>cases h
 |_=>exact h
def ka.lH{x v}(h:ka F ρ x v):ic F ρ.G ρ.n x.lH v:=by
 cases h with
 |p h=>exact h.lH|eD h=>exact .undef rfl|loc a b c=>exact a|xe a b c=>exact .undef rfl
theorem AV.Ez(x:AV):x.lH.h_=x.h_:=by cases x<;>rfl
theorem hQ.norm{x v}(h:hQ F ρ x v):ic F ρ.G ρ.n x.norm v:=by
 have d:∀{cs:List AV} {vs:List Value},iC (ka F ρ) cs vs->(∀c∈cs,c.h_=true)->ic F ρ.G ρ.n (AV.agg cs).norm (.agg vs.toArray):=by
  intro cs vs e f;refine .agg (hV.pQ (e.xt AV.lH λa b _ h=>h.lH)) ?_;intro c g;obtain⟨a,i,rfl⟩:=oi.1 g;rw[AV.Ez];exact f a i
 cases h with
 |agg e f=>exact d e f|cell h=>
  cases x with
  |agg cs=>
   cases h with
   |p h=>
    cases h with
    |agg e f=>exact d (e.uN.mono λ_ _ _ h=>.p h) f
  |_=>exact h.lH
theorem hQ.cells{x v}(h:hQ F ρ x v)(d:∀vs,x≠ .tuple vs):iC (ka F ρ) x.cells v.cells.toList:=by
 cases h with
 |agg a b=>exact a|cell h=>
  cases h with
  |p h=>exact(h.cells d).uN.mono λ_ _ _ h=>.p h|eD h=>exact .cons (.eD h) .nil|loc a b c=>exact .cons (.loc a b c) .nil|xe a b c=>exact .cons (.xe a b c) .nil
def ka.K_{x v}(h:ka F ρ x v)(a:x.h_=true):v.oneCell'=true:=by
 cases h with
 |p h=>exact h.K_ a|eD h=>rfl|loc b c d=>rfl|xe b c d=>rfl
def hQ.w4{x v}(h:hQ F ρ x v)(d:∀vs,x≠ .tuple vs):∀c∈x.cells,c.h_=true:=by
 cases h with
 |agg b a=>exact a|cell h=>
  cases h with
  |p h=>
   cases h with
   |agg b a=>exact a|tuple b=>exact absurd rfl (d _)|_=>simp[AV.cells,AV.h_]
  |eD h=>simp[AV.cells,AV.h_]|loc b a e=>simp[AV.cells,AV.h_]|xe b a e=>simp[AV.cells,AV.h_]
end
end Go.nd
namespace Go.nd
open Go
abbrev eB:=List (List AV)
abbrev fh:=Nat->Option AV
structure Fr where
 env:Nat->AV
 box:Nat->Option (List AV)
 gen:Nat->Nat
 tY:Nat->Option Nat
 fP:Nat->Nat
def hU{α:Type}(f:Nat->α)(i:Nat)(x:α):Nat->α:=λj=>if j=i then x else f j
def Fr.put(fr:Fr)(d:Option Nat)(x:AV):Fr:=
 match d with
 |some d=>{fr with env:=hU fr.env d x}|none=>fr
section
variable(P:Program)
def gq(t:TypeId):Option (Bool×Nat):=
 match P.underlying t,P.info? t with
 |some d,some i=>some (match d with|.struct _|.array _ _=>true|_=>false,i.size)
 |_,_=>none
def zeroOf(t:TypeId):Option Value:=(P.info? t).bind (·.zero)
def fD(t i:Nat):Option (Nat×TypeId):=
 match P.underlying t with
 |some (.struct fs)=>(fs[i]?).map λf=>(f.offset,f.type)|_=>none
def M'(t:TypeId):Option (Nat×TypeId):=
 match P.underlying t with
 |some (.array n e)=>some (n,e)|_=>none
def m7(t:TypeId)(cs:List AV)(off:Nat):Option AV:=
 match gq P t with
 |some (true,n)=>if off+n<=cs.length then some (.agg ((cs.drop off).take n))else none|some (false,_)=>cs[off]?|none=>none
def sw(t:TypeId)(x:AV):Bool:=
 match gq P t,x with
 |some (true,n),.agg cs=>cs.length==n|some (false,_),.agg _=>false|some (false,_),.tuple _=>false|some (false,_),.tR _ _=>false|some (false,_),.nt _ _ _=>false|some (false,_),_=>true|_,_=>false
end
def setCells(cs:List AV)(off:Nat)(new:List AV):List AV:=cs.take off++new++cs.drop (off+new.length)
def qU:Value->AV
 |.slice none 0 0=>.slice .full []|.func fn f c=>if f.size=0/\c.size=0 then .func fn [] [] else .undef|.agg _=>.undef|.tuple _=>.undef|v=>if AK v then .sc v else .undef
def ofValue:Value->AV
 |.agg cs=>.agg (cs.toList.map qU)|.tuple cs=>.tuple (cs.toList.map qU)|v=>qU v
def Ai:Value->Bool
 |.agg cs=>cs.all (·.oneCell')|.tuple cs=>cs.all (·.oneCell')|_=>true
def x'(v:Value):(qU v).h_=true:=by
 unfold qU
 split<;>first|rfl|(split<;>rfl)
def Ev(F:lN)(G:Nat->Nat)(n:Nat)(v:Value)(h:v.oneCell'=true):ic F G n (qU v) v:=by
 unfold qU
 split
 ·exact .slice (l:=[]) (vs:=[]) (b:=0) (o:=0) (sz:=0) .nil (λ_ _ h=>by simp at h) (by simp) (by simp) (by simp) (by simp) (by simp[maxLen]) (.inr ⟨rfl,rfl⟩)
 ·rename_i fn f c
  split
  ·rename_i hs;obtain⟨a,d⟩:=hs;have e:f=#[]:=VC a;have g:c=#[]:=VC d;subst e;subst g;exact .func (vf:=[]) (vc:=[]) .nil .nil
  ·exact .undef rfl
 ·simp[Value.oneCell'] at h
 ·simp[Value.oneCell'] at h
 ·split
  ·exact .sc (by assumption)
  ·exact .undef h
def ri(F:lN)(G:Nat->Nat)(n:Nat):∀(vs:List Value),(∀v∈vs,v.oneCell'=true)->hV F G n (vs.map qU) vs
 |[],_=>.nil|v::vs,h=>.cons (Ev F G n v (h v (by simp))) (ri F G n vs λu hu=>h u (by simp[hu]))
def EX{v:Value}(h:v.oneCell'=true):ofValue v=qU v:=by
 cases v<;>first|rfl|(simp[Value.oneCell'] at h)
def Ca(F:lN)(G:Nat->Nat)(n:Nat)(v:Value)(h:Ai v=true):ic F G n (ofValue v) v:=by
 cases v with
 |agg cs=>
  have b:∀v∈cs.toList,v.oneCell'=true:=λv d=>by
   have e:cs.all (·.oneCell')=true:=h
   exact I7.1 e v (yi.1 d)
  exact .agg (vs:=cs.toList) (ri F G n cs.toList b) (by
   intro c f;obtain⟨a,_,rfl⟩:=oi.1 f
   exact x' a)
 |tuple cs=>
  have b:∀v∈cs.toList,v.oneCell'=true:=λv d=>by
   have e:cs.all (·.oneCell')=true:=h
   exact I7.1 e v (yi.1 d)
  exact .tuple (vs:=cs.toList) (ri F G n cs.toList b)
 |_=>(rw[EX rfl];exact Ev F G n _ rfl)
section
variable(T:fh) (fr:Fr)
def ev:Operand->AV
 |.tmp t=>fr.env t|.const v=>ofValue v|.global g=>match T g with|some x=>.nr x|none=>.undef
 |.func f=>.func (.func f) [] []
def j_:Operand->Bool
 |.const v=>Ai v|_=>true
end
def tf(F:lN)(ρ:Maps)(fr:Fr)(a:Act):Prop:=∀t,hQ F ρ (fr.env t) (a.tmps.getD t undef)
def yz(T:fh)(F:lN)(ρ:Maps):Prop:=∀g x,T g=some x->ic F ρ.G ρ.n (.nr x) (.pointer (some ⟨g,0,none⟩))
def hX{T:fh}{fr:Fr}{F:lN}{ρ:Maps}{a:Act}(he:tf F ρ fr a)(b:yz T F ρ)(x:Operand)(c:j_ x=true):hQ F ρ (ev T fr x) (a.eval x):=by
 cases x with
 |tmp t=>exact he t|const v=>exact .p (Ca _ _ _ v c)|global g=>
  show hQ F ρ (match T g with|some x=>.nr x|none=>.undef) _;cases h:T g with
  |none=>exact .p (.undef rfl)|some x=>exact .p (b g x h)
 |func f=>exact .p (.func (vf:=[]) (vc:=[]) .nil .nil)
def qS(op:BinOp)(k:IntKind)(a b:Int):Option Value:=
 match op with
 |.add=>some (.int k (k.wrap (a+b)))|.sub=>some (.int k (k.wrap (a-b)))|.mul=>some (.int k (k.wrap (a*b)))|.quo=>if b=0 then none else some (.int k (k.wrap (a.tdiv b)))|.rem=>if b=0 then none else some (.int k (a.tmod b))|.and=>some (.int k (k.wrap (BitVec.ofInt k.bits a&&&BitVec.ofInt k.bits b).toNat))|.or=>some (.int k (k.wrap (BitVec.ofInt k.bits a|||BitVec.ofInt k.bits b).toNat))|.xor=>some (.int k (k.wrap (BitVec.ofInt k.bits a^^^BitVec.ofInt k.bits b).toNat))|.andNot=>some (.int k (k.wrap (BitVec.ofInt k.bits a&&&~~~BitVec.ofInt k.bits b).toNat))|.eql=>some (.bool (a==b))|.neq=>some (.bool (a !=b))|.lss=>some (.bool (a<b))|.leq=>some (.bool (a<=b))|.gtr=>some (.bool (a>b))|.geq=>some (.bool (a>=b))|_=>none
def Ll(op:BinOp)(x y:ByteArray):Option Value:=
 match op with
 |.add=>if((x.size+y.size:Nat):Int)>IntKind.i64.max then none else some (.string (x++y))|.eql=>some (.bool (x.toList==y.toList))|.neq=>some (.bool !(x.toList==y.toList))|.lss=>some (.bool (Op.bytesLess x.toList y.toList))|.leq=>some (.bool (Op.bytesLess x.toList y.toList||x.toList==y.toList))|.gtr=>some (.bool !(Op.bytesLess x.toList y.toList||x.toList==y.toList))|.geq=>some (.bool !(Op.bytesLess x.toList y.toList))|_=>none
def Cu:AV->Bool
 |.nr _|.eD _ _ _|.fT _ _=>true|_=>false
def sj(P:Program)(op:BinOp)(t:TypeId)(x y:AV):Option AV:=
 match op,x,y with
 |.shl,.sc (.int k a),.sc (.int _ b)=>if b<0 then none else some (.sc (.int k (k.wrap (a*2^min b.toNat k.bits))))|.shr,.sc (.int k a),.sc (.int _ b)=>if b<0 then none else some (.sc (.int k (a.fdiv (2^min b.toNat k.bits))))|op,.sc (.int k a),.sc (.int k' b)=>if k=k' then(qS op k a b).map .sc else none|op,.sc (.string a),.sc (.string b)=>(Ll op a b).map .sc|.eql,.sc (.bool a),.sc (.bool b)=>match P.underlying t with|some .bool=>some (.sc (.bool (a==b)))|_=>none
 |.neq,.sc (.bool a),.sc (.bool b)=>match P.underlying t with|some .bool=>some (.sc (.bool (!(a==b))))|_=>none
 |.eql,x,.sc (.pointer none)=>match P.underlying t with
  |some (.pointer _)=>if Cu x then some (.sc (.bool false))else(match x with|.sc (.pointer none)=>some (.sc (.bool true))|_=>none)
  |_=>none
 |.neq,x,.sc (.pointer none)=>match P.underlying t with
  |some (.pointer _)=>if Cu x then some (.sc (.bool true))else(match x with|.sc (.pointer none)=>some (.sc (.bool false))|_=>none)
  |_=>none
 |.eql,.func _ _ _,.sc .nilFunc=>match P.underlying t with|some (.func ..)=>some (.sc (.bool false))|_=>none
 |.neq,.func _ _ _,.sc .nilFunc=>match P.underlying t with|some (.func ..)=>some (.sc (.bool true))|_=>none
 |.eql,.sc .nilFunc,.sc .nilFunc=>match P.underlying t with|some (.func ..)=>some (.sc (.bool true))|_=>none
 |.neq,.sc .nilFunc,.sc .nilFunc=>match P.underlying t with|some (.func ..)=>some (.sc (.bool false))|_=>none
 |_,_,_=>none
def Y9(op:UnOp)(x:AV):Option AV:=
 match op,x with
 |.neg,.sc (.int k n)=>some (.sc (.int k (k.wrap (0-n))))|.not,.sc (.bool b)=>some (.sc (.bool !b))|_,_=>none
def gL{F:lN}{ρ:Maps}{u v:Value}(h:hQ F ρ (.sc u) v):v=u:=by
 cases h with
 |cell h=>cases h with|p h=>cases h;rfl
def HB(P:Program)(w:World){op:BinOp}{k:IntKind}{a b:Int}{v:Value}(t:TypeId)(h:qS op k a b=some v):(binOp op t (.int k a) (.int k b)).run P w=.ok v w/\AK v=true:=by
 cases op<;>simp only[qS,tC,reduceCtorEq] at h<;>(try(split at h))<;>
  (first
   |(subst h;refine⟨?_,rfl⟩;simp[binOp,Op.intArith,Op.intBits,Op.intCmp,Op.intDiv, *])
   |(cases h;refine⟨?_,rfl⟩;simp[binOp,Op.intArith,Op.intBits,Op.intCmp,Op.intDiv, *])
   |cases h)
def HK(P:Program)(w:World){op:BinOp}{a b:ByteArray}{v:Value}(t:TypeId)(h:Ll op a b=some v):(binOp op t (.string a) (.string b)).run P w=.ok v w/\AK v=true:=by
 cases op<;>simp only[Ll,tC,reduceCtorEq] at h<;>(try(split at h))<;>
  (first
   |(subst h;refine⟨?_,rfl⟩;simp[binOp,Op.stringOp, *])
   |(cases h;refine⟨?_,rfl⟩;simp_all [binOp,Op.stringOp])
   |cases h)
def DM{F:lN}{ρ:Maps}{x:AV}{v:Value}(b:Cu x=true)(h:hQ F ρ x v):∃a,v=.pointer (some a):=by
 cases h with
 |agg c d=>simp[Cu] at b
 |cell h=>
  cases h with
  |eD h=>exact⟨_,rfl⟩|loc c d e=>simp[Cu] at b
  |xe c d e=>simp[Cu] at b
  |p h=>cases h<;>first|(simp[Cu] at b;done)|exact⟨_,rfl⟩
def x_{P:Program}{t e:TypeId}(h:P.underlying t=some (.pointer e)):P.underlying t=some (.pointer (P.pointee t)):=by
 simp[Program.pointee,h]
def AD{F:lN}{ρ:Maps}{fn:Fn}{f c:List AV}{v:Value}(h:hQ F ρ (.func fn f c) v):∃vf vc:List Value,v=.func fn vf.toArray vc.toArray/\iC (ic F ρ.G ρ.n) f vf/\iC (ic F ρ.G ρ.n) c vc:=by
 cases h with
 |cell h=>cases h with
  |p h=>cases h with|func a b=>exact⟨_,_,rfl,a.uN,b.uN⟩
def O'(P:Program)(w:World){t:TypeId}{ps rs:Array TypeId}{b:Bool}(hu:P.underlying t=some (.func ps rs b))(fn:Fn)(f c:Array Value):(binOp .eql t (.func fn f c) .nilFunc).run P w=.ok (.bool false) w/\(binOp .neq t (.func fn f c) .nilFunc).run P w=.ok (.bool true) w:=by
 have h:∀d,(Op.equalIn (d+1) t (.func fn f c) .nilFunc).run P w=.ok false w:=λd=>by simp[Op.equalIn,run_underlying hu]
 have a:binOp .eql t (.func fn f c) .nilFunc=(do pure (.bool (<-Op.equalIn (9999+1) t (.func fn f c) .nilFunc))):=rfl;have e:binOp .neq t (.func fn f c) .nilFunc=(do pure (.bool (!(<-Op.equalIn (9999+1) t (.func fn f c) .nilFunc)))):=rfl;rw[a,e,iz,iz,h 9999];exact⟨rfl,rfl⟩
def PC(P:Program)(w:World){t:TypeId}{ps rs:Array TypeId}{b:Bool}(hu:P.underlying t=some (.func ps rs b)):(binOp .eql t .nilFunc .nilFunc).run P w=.ok (.bool true) w/\(binOp .neq t .nilFunc .nilFunc).run P w=.ok (.bool false) w:=by
 have h:∀d,(Op.equalIn (d+1) t .nilFunc .nilFunc).run P w=.ok true w:=λd=>by simp[Op.equalIn,run_underlying hu]
 have a:binOp .eql t .nilFunc .nilFunc=(do pure (.bool (<-Op.equalIn (9999+1) t .nilFunc .nilFunc))):=rfl;have c:binOp .neq t .nilFunc .nilFunc=(do pure (.bool (!(<-Op.equalIn (9999+1) t .nilFunc .nilFunc)))):=rfl;rw[a,c,iz,iz,h 9999];exact⟨rfl,rfl⟩
def Lp:Value->Bool
 |.nilIface=>false|.agg _=>false|_=>true
def Mv(P:Program)(w:World)(op:BinOp)(t:TypeId)(x y:Operand){u v:Value}(h:Lp u=true):(eqGuard op t x y u v).run P w=.ok () w:=by
 unfold eqGuard
 cases u<;>first|(simp[Lp] at h;done)|(cases op<;>rfl)
def PU(P:Program)(w:World){F:lN}{ρ:Maps}{op:BinOp}{t:TypeId}{x y r:AV}{u v:Value}(h:sj P op t x y=some r)
  (b:hQ F ρ x u) (hy:hQ F ρ y v):∃z,(binOp op t u v).run P w=.ok z w/\r=.sc z/\AK z=true/\Lp u=true:=by
 unfold sj at h
 split at h
 ·cases gL b;cases gL hy
  split at h
  ·cases h
  ·rename_i c;cases h;exact⟨_,by simp[binOp,Op.shift,c],rfl,rfl,rfl⟩
 ·cases gL b;cases gL hy
  split at h
  ·cases h
  ·rename_i c;cases h;exact⟨_,by simp[binOp,Op.shift,c],rfl,rfl,rfl⟩
 ·cases gL b;cases gL hy
  split at h
  ·rename_i e;subst e;cases hi:qS op _ _ _ with
   |none=>rw[hi] at h;cases h
   |some z=>
    rw[hi] at h;cases h;exact⟨z,(HB P w t hi).1,rfl,(HB P w t hi).2,rfl⟩
  ·cases h
 ·cases gL b;cases gL hy;cases hi:Ll op _ _ with
  |none=>rw[hi] at h;cases h
  |some z=>
   rw[hi] at h;cases h;exact⟨z,(HK P w t hi).1,rfl,(HK P w t hi).2,rfl⟩
 ·cases gL b;cases gL hy
  split at h
  ·rename_i hu;cases h;exact⟨_,run_eql_bool w t _ _ hu,rfl,rfl,rfl⟩
  ·cases h
 ·cases gL b;cases gL hy
  split at h
  ·rename_i hu;cases h;exact⟨_,run_neq_bool w t _ _ hu,rfl,rfl,rfl⟩
  ·cases h
 ·cases gL hy
  split at h
  ·rename_i hu
   split at h
   ·rename_i d;obtain⟨a,rfl⟩:=DM d b;cases h;exact⟨_,run_eql_pointer_nil w t _ (x_ hu),by simp,rfl,rfl⟩
   ·split at h
    ·cases gL b;cases h;exact⟨_,run_eql_pointer_nil w t _ (x_ hu),by simp,rfl,rfl⟩
    ·cases h
  ·cases h
 ·cases gL hy
  split at h
  ·rename_i hu
   split at h
   ·rename_i d;obtain⟨a,rfl⟩:=DM d b;cases h;exact⟨_,run_neq_pointer_nil w t _ (x_ hu),by simp,rfl,rfl⟩
   ·split at h
    ·cases gL b;cases h;exact⟨_,run_neq_pointer_nil w t _ (x_ hu),by simp,rfl,rfl⟩
    ·cases h
  ·cases h
 ·cases gL hy;obtain⟨vf,vc,rfl,_,_⟩:=AD b
  split at h
  ·rename_i hu;cases h;exact⟨.bool false,(O' P w hu _ _ _).1,rfl,rfl,rfl⟩
  ·cases h
 ·cases gL hy;obtain⟨vf,vc,rfl,_,_⟩:=AD b
  split at h
  ·rename_i hu;cases h;exact⟨.bool true,(O' P w hu _ _ _).2,rfl,rfl,rfl⟩
  ·cases h
 ·cases gL b;cases gL hy
  split at h
  ·rename_i hu;cases h;exact⟨.bool true,(PC P w hu).1,rfl,rfl,rfl⟩
  ·cases h
 ·cases gL b;cases gL hy
  split at h
  ·rename_i hu;cases h;exact⟨.bool false,(PC P w hu).2,rfl,rfl,rfl⟩
  ·cases h
 ·cases h
end Go.nd
namespace Go.nd
open Go
def rM{l:List AV}{sz:Nat}(h:∀x∈l,x.cells.length=sz):(l.flatMap AV.cells).length=l.length*sz:=by
 induction l with
 |nil=>simp|cons x l a=>grind
def Db{l:List AV}{sz:Nat}(h:∀x∈l,x.cells.length=sz)(n:Nat):(l.take n).flatMap AV.cells=(l.flatMap AV.cells).take (n*sz):=by
 induction l generalizing n with
 |nil=>simp|cons x l a=>
  cases n with
  |zero=>simp|succ n=>
   have b:=h x (by simp)
   rw[List.take_succ_cons,BC,BC,a (λy hy=>h y (by simp[hy])),AR,TU,List.take_append,b,X0 (l:=x.cells) (by omega),Vq]
def x0{l:List AV}{sz:Nat}(h:∀x∈l,x.cells.length=sz)(n:Nat):(l.drop n).flatMap AV.cells=(l.flatMap AV.cells).drop (n*sz):=by
 induction l generalizing n with
 |nil=>simp|cons x l a=>
  cases n with
  |zero=>simp|succ n=>
   have b:=h x (by simp)
   rw[List.drop_succ_cons,BC,a (λy hy=>h y (by simp[hy])),AR,TU,UU,b,Iz (as:=x.cells) (by omega),Vq,pk]
def Nh{l:List AV}{sz:Nat}(h:∀x∈l,x.cells.length=sz){i:Nat}{x:AV}(hi:l[i]?=some x):((l.flatMap AV.cells).drop (i*sz)).take sz=x.cells:=by
 have b:=x0 h i;have a:i<l.length:=(pK.1 hi).1
 have c:l.drop i=x::l.drop (i+1):=by
  have:=Kq a
  grind
 grind
def lN.has.drop{F:lN}{b o:Nat}{vs:List Value}(h:F.has b o vs)(n:Nat):F.has b (o+n) (vs.drop n):=by
 intro i v a;rw[Xr] at a;have:=h _ v a
 grind
def lN.has.take{F:lN}{b o:Nat}{vs:List Value}(h:F.has b o vs)(n:Nat):F.has b o (vs.take n):=by
 intro i v a;rw[Iy] at a
 split at a
 ·exact h i v a
 ·cases a
section
variable{F:lN} {G:Nat->Nat} {n:Nat}
def hV.drop{xs vs}(h:hV F G n xs vs)(k:Nat):hV F G n (xs.drop k) (vs.drop k):=.pQ (h.uN.drop k)
def hV.take{xs vs}(h:hV F G n xs vs)(k:Nat):hV F G n (xs.take k) (vs.take k):=.pQ (h.uN.take k)
def hV.get{xs vs}(h:hV F G n xs vs){i:Nat}{x:AV}(a:xs[i]?=some x):∃v,vs[i]?=some v/\ic F G n x v:=h.uN.get a
def hV.length{xs vs}(h:hV F G n xs vs):xs.length=vs.length:=h.uN.length
def hV.append{xs vs a vs'}(h:hV F G n xs vs)(b:hV F G n a vs'):hV F G n (xs++a) (vs++vs'):=.pQ (h.uN.append b.uN)
end
def AV.AG{x:AV}(h:x.h_=true):x.cells=[x]:=by cases x<;>first|rfl|(simp[AV.h_] at h)
section
variable{P:Program}
def EM{t:TypeId}{b:Bool}{n:Nat}(h:gq P t=some (b,n)):∃d i,P.underlying t=some d/\P.info? t=some i/\i.size=n/\(match d with|.struct _|.array _ _=>true|_=>false)=b:=by grind[gq]
def lb{t:TypeId}{b:Bool}{n:Nat}(h:gq P t=some (b,n))(w:World):(sizeOf t).run P w=.ok n w:=by
 obtain⟨d,i,a,hi,hn,_⟩:=EM h;simp[sizeOf,typeInfo,hi,hn]
def yE{t:TypeId}{b:Bool}{n:Nat}(h:gq P t=some (b,n))(w:World):(isAgg t).run P w=.ok b w:=by
 obtain⟨d,i,a,hi,hn,c⟩:=EM h;subst c;unfold isAgg;rw[iz,run_underlying a];cases d<;>rfl
def z'{t:TypeId}{cs:List AV}{off:Nat}{z:AV}(h:m7 P t cs off=some z):(∃k,gq P t=some (true,k)/\off+k<=cs.length/\z=.agg ((cs.drop off).take k))\/(∃k,gq P t=some (false,k)/\cs[off]?=some z):=by grind[m7]
def yL{t:TypeId}{k:Nat}(h:gq P t=some (true,k))(w:World)(a:Addr)(vs:List Value)(b:vs.length=k)
  (c:∀j v,vs[j]?=some v->w.cell? (a.add j)=some v):(loadVar t a).run P w=.ok (.agg vs.toArray) w:=by
 unfold loadVar;rw[iz,yE h];simp only[kj,if_true];rw[iz,lb h,kj,iz,<-b,run_loadCells_list w a vs c];rfl
def yI{t:TypeId}{k:Nat}(h:gq P t=some (false,k))(w:World)(a:Addr)(v:Value)(b:w.cell? a=some v):(loadVar t a).run P w=.ok v w:=by
 unfold loadVar;rw[iz,yE h]
 simp_all
end
def ry(P:Program)(t:TypeId)(x:AV)(i:Nat):Option AV:=
 match fD P t i with
 |none=>none|some (off,a)=>
  match gq P a with
  |none=>none|some (_,n)=>
   if n=0 then none else
   match x with
   |.eD b g o=>some (.eD b g (o+off))|.fT o f=>some (.fT o (f+off))|.nr y=>(m7 P a y.cells off).map .nr|_=>none
def BQ(P:Program)(t:TypeId)(x:AV)(i:Nat):Option AV:=
 match fD P t i,x with
 |some (off,a),.agg cs=>m7 P a cs off|_,_=>none
def gQ(P:Program)(t:TypeId)(x i:AV):Option AV:=
 match i with
 |.sc (.int _ n)=>
  match P.underlying t,x with
  |some (.slice e),.slice _ l=>
   if 0<=n then
    match l[n.toNat]?,gq P e with
    |some y,some (_,sz)=>if y.cells.length=sz then some (.nr y)else none|_,_=>none
   else none
  |some (.slice e),.xe b g len _=>
   match gq P e with
   |some (_,sz)=>if 0<=n/\n<len then some (.eD b g (n.toNat*sz))else none|none=>none
  |some (.slice e),.zo b off len _=>
   match gq P e with
   |some (_,sz)=>if 0<=n/\n<len then some (.fT b (off+n.toNat*sz))else none|none=>none
  |some (.array len e),.eD b g o=>
   match gq P e with
   |some (_,sz)=>if 0<=n/\n<len then some (.eD b g (o+n.toNat*sz))else none|none=>none
  |some (.array len e),.fT a o=>
   match gq P e with
   |some (_,sz)=>if 0<=n/\n<len then some (.fT a (o+n.toNat*sz))else none|none=>none
  |some (.array len e),.nr y=>
   match gq P e with
   |some (_,sz)=>if 0<=n/\n<len then(m7 P e y.cells (n.toNat*sz)).map .nr else none|none=>none
  |_,_=>none
 |_=>none
def NK(P:Program)(t:TypeId)(x i:AV):Option AV:=
 match i with
 |.sc (.int _ n)=>
  match P.underlying t,x with
  |some .string,.sc (.string s)=>if 0<=n then(s[n.toNat]?).map λb=>.sc (.int .u8 b.toNat)else none|some (.array len e),.agg cs=>
   match gq P e with
   |some (_,sz)=>if 0<=n/\n<len then m7 P e cs (n.toNat*sz)else none|none=>none
  |_,_=>none
 |_=>none
section
variable{P:Program} {F:lN} {ρ:Maps}
def CB{cs:List AV}{v:Value}(h:hQ F ρ (.agg cs) v):∃vs:List Value,v=.agg vs.toArray/\iC (ka F ρ) cs vs/\∀c∈cs,c.h_=true:=by
 cases h with
 |agg a b=>grind|cell h=>cases h with
  |p h=>cases h with|agg a b=>exact⟨_,rfl,a.uN.mono λ_ _ _ h=>.p h,b⟩
def Oo{cs:List AV}{v:Value}(h:hQ F ρ (.tuple cs) v):∃vs:List Value,v=.tuple vs.toArray/\iC (ic F ρ.G ρ.n) cs vs:=by
 cases h with
 |cell h=>cases h with
  |p h=>cases h with|tuple a=>exact⟨_,rfl,a.uN⟩
def xD{b g off:Nat}{v:Value}(h:hQ F ρ (.eD b g off) v):v=.pointer (some ⟨ρ.L b g,off,none⟩)/\g<=ρ.lg b:=by
 cases h with
 |cell h=>cases h with
  |p h=>cases h
  |eD h=>grind
def uZ{o off:Nat}{v:Value}(h:hQ F ρ (.fT o off) v):v=.pointer (some ⟨ρ.G o,off,none⟩)/\o<ρ.n:=by
 cases h with
 |cell h=>cases h with
  |p h=>cases h with|fT h=>exact⟨rfl,h⟩
def Eb{x:AV}{v:Value}(h:hQ F ρ (.nr x) v):∃b o vs,v=.pointer (some ⟨b,o,none⟩)/\hV F ρ.G ρ.n x.cells vs/\F.has b o vs/\∀c∈x.cells,c.h_=true:=by
 cases h with
 |cell h=>cases h with
  |p h=>cases h with|nr a d e=>exact⟨_,_,_,rfl,a,d,e⟩
def Aa{b g len cap:Nat}{v:Value}(h:hQ F ρ (.xe b g len cap) v):v=.slice (some ⟨ρ.L b g,0,none⟩) len cap/\g<=ρ.lg b/\len<=cap/\cap<=maxLen:=by
 cases h with
 |cell h=>cases h with
  |p h=>cases h
  |xe a c d=>grind
def F9{o off len cap:Nat}{v:Value}(h:hQ F ρ (.zo o off len cap) v):v=.slice (some ⟨ρ.G o,off,none⟩) len cap/\o<ρ.n/\len<=cap/\cap<=maxLen:=by
 cases h with
 |cell h=>cases h with
  |p h=>cases h with|zo a b c=>exact⟨rfl,a,b,c⟩
structure Vf (F:lN) (ρ:Maps) (l:List AV) (base:Option Addr) (cap b o sz:Nat) (vs:List Value):Prop where
 cells:hV F ρ.G ρ.n (l.flatMap AV.cells) vs
 has:F.has b o vs
 base:l≠[]->base=some ⟨b,o,none⟩
 sz:∀x∈l,x.cells.length=sz
 w4:∀c∈l.flatMap AV.cells,c.h_=true
 CP:l.length<=cap
 DZ:cap<=maxLen
def ic.Jv{G:Nat->Nat}{n:Nat}{tag:Tag}{l:List AV}{v:Value}(h:ic F G n (.slice tag l) v):∃base cap b o sz vs,v=.slice base l.length cap/\hV F G n (l.flatMap AV.cells) vs/\F.has b o vs/\(l≠[]->base=some ⟨b,o,none⟩)/\(∀x∈l,x.cells.length=sz)/\(∀c∈l.flatMap AV.cells,c.h_=true)/\l.length<=cap/\cap<=maxLen/\(tag=.iR\/tag=.full/\cap=l.length):=by
 cases h with|slice a d e f g i j k=>exact⟨_,_,_,_,_,_,rfl,a,d,e,f,g,i,j,k⟩
def qd{tag:Tag}{l:List AV}{v:Value}(h:hQ F ρ (.slice tag l) v):∃base cap b o sz vs,v=.slice base l.length cap/\Vf F ρ l base cap b o sz vs/\(tag=.full->cap=l.length)/\(∀k g,tag=.loc k g->g<=ρ.ag k/\tx ρ k g l base cap):=by
 cases h with
 |cell h=>cases h with
  |p h=>
   obtain⟨base,cap,b,o,sz,vs,rfl,a,m,n,c,d,e,f,q⟩:=h.Jv;refine⟨base,cap,b,o,sz,vs,rfl,⟨a,m,n,c,d,e,f⟩,?_,?_⟩
   all_goals grind
  |loc a m n=>
   obtain⟨base,cap,b,o,sz,vs,he,a,i,j,c,d,e,f,q⟩:=a.Jv;injection he with r t s;subst r;subst s;refine⟨_,_,b,o,sz,vs,rfl,⟨a,i,j,c,d,e,f⟩,(by intro h;cases h),?_⟩
   grind
def Jo{G:Nat->Nat}{n:Nat}{cs:List AV}{vs:List Value}{b o:Nat}{t:TypeId}{off:Nat}{z:AV}(e:hV F G n cs vs)(f:F.has b o vs)(g:∀c∈cs,c.h_=true)
  (h:m7 P t cs off=some z):ic F G n (.nr z) (.pointer (some ⟨b,o+off,none⟩)):=by
 rcases z' h with⟨k,j,hle,rfl⟩|⟨k,j,d⟩
 ·exact .nr ((e.drop off).take k) ((f.drop off).take k) (λc d=>g c (IJ (Ed d)))
 ·obtain⟨v,l,m⟩:=e.get d;have a:=g z (CH d);refine .nr (vs:=[v]) (by rw[AV.AG a];exact .cons m .nil) ?_ (by rw[AV.AG a];simpa using a);intro i u hu;cases i with
  |zero=>simp at hu;subst hu;exact f off _ l
  |succ i=>simp at hu
def Jc(w:World){t:TypeId}{x r:AV}{u:Value}{i:Nat}(h:ry P t x i=some r)(c:hQ F ρ x u):∃v,(Instr.fieldAt t u i).run P w=.ok v w/\hQ F ρ r v:=by
 unfold ry at h
 split at h
 ·cases h
 ·rename_i off j s
  split at h
  ·cases h
  ·rename_i agg n k
   split at h
   ·cases h
   ·rename_i hn
    have a:∃fs f,P.underlying t=some (.struct fs)/\fs[i]?=some f/\f.offset=off/\f.type=j:=by grind[fD]
    obtain⟨fs,f,hu,d,rfl,rfl⟩:=a
    have key:∀b o:Nat,(Instr.fieldAt t (.pointer (some ⟨b,o,none⟩)) i).run P w=.ok (.pointer (some ⟨b,o+f.offset,none⟩)) w:=by
     intro b o;unfold Instr.fieldAt;rw[iz,run_underlying hu,kj];simp only[d,Instr.sureAddr,iz,pt,kj,fieldPlace,lb k,hn,QL,Addr.add_lit]
    split at h
    ·rename_i b g o;cases h;obtain⟨rfl,hg⟩:=xD c;exact⟨_,key _ _,.cell (.eD hg)⟩
    ·rename_i o A;cases h;obtain⟨rfl,hg⟩:=uZ c;exact⟨_,key _ _,.p (.fT hg)⟩
    ·rename_i y;obtain⟨b,o,vs,rfl,l,m,q⟩:=Eb c;cases e:m7 P f.type y.cells f.offset with
     |none=>rw[e] at h;cases h
     |some z=>
      rw[e] at h;cases h;exact⟨_,key _ _,.p (Jo l m q e)⟩
    ·cases h
def CN(w:World){t:TypeId}{cs:List AV}{vs:List Value}{off:Nat}{z:AV}(d:iC (ka F ρ) cs vs)(e:∀c∈cs,c.h_=true)(f:m7 P t cs off=some z):∃v,(part t vs.toArray off).run P w=.ok v w/\hQ F ρ z v:=by
 rcases z' f with⟨k,a,hle,rfl⟩|⟨k,a,b⟩
 ·refine⟨.agg ((vs.drop off).take k).toArray,?_,.agg ((d.drop off).take k) (λc b=>e c (IJ (Ed b)))⟩;unfold part;rw[iz,yE a];simp only[kj,if_true,iz,lb a,pt]
  grind
 ·obtain⟨v,g,h⟩:=d.get b;refine⟨v,?_,.cell h⟩;unfold part;rw[iz,yE a];simp[g]
def Qc(w:World){t:TypeId}{x r:AV}{u:Value}{i:Nat}(h:BQ P t x i=some r)(c:hQ F ρ x u):∃v,(Instr.field t u i).run P w=.ok v w/\hQ F ρ r v:=by
 unfold BQ at h
 split at h
 ·rename_i off d cs l;obtain⟨vs,rfl,e,g⟩:=CB c
  have a:∃fs f,P.underlying t=some (.struct fs)/\fs[i]?=some f/\f.offset=off/\f.type=d:=by grind[fD]
  obtain⟨fs,f,hu,b,rfl,rfl⟩:=a;obtain⟨v,j,k⟩:=CN w e g h;refine⟨v,?_,k⟩;unfold Instr.field;rw[iz,run_underlying hu];simp only[b,asAgg,iz,pt,kj,j]
 ·cases h
def IA(w:World){t:TypeId}{x i r:AV}{u j:Value}(h:gQ P t x i=some r)(m:hQ F ρ x u)(hi:hQ F ρ i j):∃v,(Instr.indexAt t u j).run P w=.ok v w/\hQ F ρ r v:=by
 unfold gQ at h
 split at h
 ·rename_i k n;cases gL hi
  split at h
  ·rename_i e tag l hu
   split at h
   ·rename_i hn
    split at h
    ·rename_i y agg sz hy a
     split at h
     ·rename_i s;cases h;obtain⟨base,cap,b,o,d,vs,rfl,hs,_,_⟩:=qd m;have A:n.toNat<l.length:=(pK.1 hy).1
      have B:l≠[]:=by rintro rfl;simp at A
      have f:=CH hy
      have q:d=sz:=by rw[<-hs.sz y f,s]
      subst q;rw[hs.base B];refine⟨.pointer (some ⟨b,o+n.toNat*d,none⟩),?_,.p (.nr (vs:=(vs.drop (n.toNat*d)).take d) ?_ ?_ ?_)⟩
      ·unfold Instr.indexAt;simp only[asIntOf,iz,pt,kj,run_underlying hu];rw[ee ⟨hn,by omega⟩];simp only[iz,pt,kj,lb a,Addr.add_lit]
      ·rw[<-Nh hs.sz hy];exact(hs.cells.drop _).take _
      ·exact(hs.has.drop _).take _
      ·intro c D;exact hs.w4 c (Qi.2 ⟨y,f,D⟩)
     ·cases h
    ·cases h
   ·cases h
  ·rename_i e b g len cap hu
   split at h
   ·rename_i agg sz a
    split at h
    ·rename_i hn;cases h;obtain⟨rfl,hg,_,_⟩:=Aa m;refine⟨.pointer (some ⟨ρ.L b g,n.toNat*sz,none⟩),?_,.cell (.eD hg)⟩;unfold Instr.indexAt;simp only[asIntOf,iz,pt,kj,run_underlying hu];rw[ee ⟨hn.1,by omega⟩];simp only[iz,pt,kj,lb a,Addr.add_lit,vl]
    ·cases h
   ·cases h
  ·rename_i e b off len cap hu
   split at h
   ·rename_i agg sz a
    split at h
    ·rename_i hn;cases h;obtain⟨rfl,hg,_,_⟩:=F9 m;refine⟨.pointer (some ⟨ρ.G b,off+n.toNat*sz,none⟩),?_,.p (.fT hg)⟩;unfold Instr.indexAt;simp only[asIntOf,iz,pt,kj,run_underlying hu];rw[ee ⟨hn.1,by omega⟩];simp only[iz,pt,kj,lb a,Addr.add_lit]
    ·cases h
   ·cases h
  ·rename_i len e b g o hu
   split at h
   ·rename_i agg sz a
    split at h
    ·rename_i hn;cases h;obtain⟨rfl,hg⟩:=xD m;refine⟨.pointer (some ⟨ρ.L b g,o+n.toNat*sz,none⟩),?_,.cell (.eD hg)⟩;unfold Instr.indexAt;simp only[asIntOf,Instr.sureAddr,iz,pt,kj,run_underlying hu];rw[ee hn];simp only[iz,pt,kj,lb a,Addr.add_lit]
    ·cases h
   ·cases h
  ·rename_i len e E o hu
   split at h
   ·rename_i agg sz a
    split at h
    ·rename_i hn;cases h;obtain⟨rfl,hg⟩:=uZ m;refine⟨.pointer (some ⟨ρ.G E,o+n.toNat*sz,none⟩),?_,.p (.fT hg)⟩;unfold Instr.indexAt;simp only[asIntOf,Instr.sureAddr,iz,pt,kj,run_underlying hu];rw[ee hn];simp only[iz,pt,kj,lb a,Addr.add_lit]
    ·cases h
   ·cases h
  ·rename_i len e y hu
   split at h
   ·rename_i agg sz a
    split at h
    ·rename_i hn;obtain⟨b,o,vs,rfl,H,I,J⟩:=Eb m;cases C:m7 P e y.cells (n.toNat*sz)with
     |none=>rw[C] at h;cases h
     |some z=>
      rw[C] at h;cases h;refine⟨.pointer (some ⟨b,o+n.toNat*sz,none⟩),?_,.p (Jo H I J C)⟩;unfold Instr.indexAt;simp only[asIntOf,Instr.sureAddr,iz,pt,kj,run_underlying hu];rw[ee hn];simp only[iz,pt,kj,lb a,Addr.add_lit]
    ·cases h
   ·cases h
  ·cases h
 ·cases h
def Qk(w:World){t:TypeId}{x i r:AV}{u j:Value}(h:NK P t x i=some r)(c:hQ F ρ x u)(hi:hQ F ρ i j):∃v,(Instr.index t u j).run P w=.ok v w/\hQ F ρ r v:=by
 unfold NK at h
 split at h
 ·rename_i k n;cases gL hi
  split at h
  ·rename_i s hu;cases gL c
   split at h
   ·rename_i hn;cases a:s[n.toNat]?with
    |none=>rw[a] at h;cases h
    |some b=>
     rw[a] at h;cases h;refine⟨.int .u8 b.toNat,?_,.p (.sc rfl)⟩;unfold Instr.index;simp[asIntOf,run_underlying hu,hn,a]
   ·cases h
  ·rename_i len e cs hu
   split at h
   ·rename_i agg sz d
    split at h
    ·rename_i hn;obtain⟨vs,rfl,f,g⟩:=CB c;obtain⟨v,l,m⟩:=CN w f g h;refine⟨v,?_,m⟩;unfold Instr.index;simp only[asIntOf,iz,pt,kj,run_underlying hu];rw[ee hn];simp only[iz,lb d,kj,l]
    ·cases h
   ·cases h
  ·cases h
 ·cases h
end
end Go.nd
