/- Part of the proof of UniformExact, UniformAccepted: layer. -/
import Derived.Orders
import Derived.Below
import Derived.Laws.AppendOwn
import Derived.Laws.Cells
import Derived.Laws.CopyRow
import Derived.Laws.Small
import Derived.Laws.Pointers
import Derived.WalkSpells
import Derived.Test.YtijednbpbbddbaaGreatDoorB1
set_option linter.all false
namespace Go.ns
open Go
inductive Tag where
 |jU|full|loc (k g:Nat)
inductive AV where
 |undef|sc (v:Value)|nt (x:AV)|jo (b g off:Nat)|eS (o off:Nat)|slice (tag:Tag) (l:List AV)|agg (cs:List AV)|tuple (vs:List AV)|func (fn:Fn) (first cap:List AV)
 |iface (t:TypeId) (x:AV)|A3 (b g len cap:Nat)|qZ (o:Nat)|yM (ks:List Value) (xs:List AV)|p_ (o since:Nat) (seen:List Nat)|xx (o off len cap:Nat)|KD
instance:Inhabited AV:=⟨.undef⟩
def AV.cells:AV->List AV
 |.agg cs=>cs|x=>[x]
def AV.gw:AV->Bool
 |.agg _=>false|.tuple _=>false|.yM _ _=>false|.p_ _ _ _=>false|_=>true
def BD:Value->Bool
 |.bool _=>true|.int _ _=>true|.float _ _=>true|.string _=>true|.pointer none=>true|.map none=>true|.nilFunc=>true|.nilIface=>true|_=>false
inductive iU {α β:Type} (R:α->β->Prop):List α->List β->Prop
 |nil:iU R [] []|cons {a b as bs}:R a b->iU R as bs->iU R (a::as) (b::bs)
def iU.length{α β:Type}{R:α->β->Prop}{as:List α}{bs:List β}(h:iU R as bs):as.length=bs.length:=by
 induction h with
 |nil=>rfl|cons _ _ a=>simp[a]
def iU.mono{α β:Type}{R S:α->β->Prop}{as:List α}{bs:List β}(h:iU R as bs)(hs:∀a b,a∈as->R a b->S a b):iU S as bs:=by
 induction h with
 |nil=>exact .nil|cons c _ d=>exact .cons (hs _ _ aaB c) (d λa b e=>hs a b aaN)
def iU.append{α β:Type}{R:α->β->Prop}{as a:List α}{bs b:List β}(h:iU R as bs)(c:iU R a b):iU R (as++a) (bs++b):=by
 induction h with
 |nil=>exact c|cons d _ e=>exact .cons d e
def iU.take{α β:Type}{R:α->β->Prop}{as:List α}{bs:List β}(h:iU R as bs)(n:Nat):iU R (as.take n) (bs.take n):=by
 induction h generalizing n with
 |nil=>simp;exact .nil|cons a _ b=>cases n with
  |zero=>exact .nil|succ n=>exact .cons a (b n)
def iU.drop{α β:Type}{R:α->β->Prop}{as:List α}{bs:List β}(h:iU R as bs)(n:Nat):iU R (as.drop n) (bs.drop n):=by
 induction h generalizing n with
 |nil=>simp;exact .nil|cons a b c=>cases n with
  |zero=>exact .cons a b|succ n=>exact c n
def iU.get{α β:Type}{R:α->β->Prop}{as:List α}{bs:List β}(h:iU R as bs){i:Nat}{a:α}(c:as[i]?=some a):∃b,bs[i]?=some b/\R a b:=by
 induction h generalizing i with
 |nil=>simp at c
 |cons d _ e=>cases i with
  |zero=>simp at c;subst c;exact⟨_,rfl,d⟩
  |succ i=>simp at c;simpa using e c
def iU.mem{α β:Type}{R:α->β->Prop}{as:List α}{bs:List β}(h:iU R as bs){b:β}(hb:b∈bs):∃a∈as,R a b:=by
 induction h with
 |nil=>simp at hb
 |cons c _ d=>
  rcases iL.1 hb with rfl|hb
  ·exact⟨_,aaB,c⟩
  ·obtain⟨a,e,f⟩:=d hb;exact⟨a,aaN,f⟩
def iU.Az{α α' β:Type}{R:α->β->Prop}{S:α'->β->Prop}{as:List α}{bs:List β}(f:α->α')(h:iU R as bs)(hs:∀a b,a∈as->R a b->S (f a) b):iU S (as.map f) bs:=by
 induction h with
 |nil=>exact .nil|cons c _ d=>exact .cons (hs _ _ aaB c) (d λa b e=>hs a b aaN)
abbrev nc:=Nat->Nat->Option Value
def nc.has(F:nc)(b o:Nat)(vs:List Value):Prop:=∀i v,vs[i]?=some v->F b (o+i)=some v
mutual
inductive ic (F:nc) (G:Nat->Nat) (n:Nat):AV->Value->Prop
 |undef {v}:v.oneCell'=true->ic F G n .undef v|sc {v}:BD v=true->ic F G n (.sc v) v|nt {x b o vs}:iI F G n x.cells vs->F.has b o vs->(∀c∈x.cells,c.gw=true)->ic F G n (.nt x) (.pointer (some ⟨b,o,none⟩))|eS {o off}:o<n->ic F G n (.eS o off) (.pointer (some ⟨G o,off,none⟩))|qZ {o}:o<n->ic F G n (.qZ o) (.map (some (G o)))|xx {o off len cap}:o<n->len<=cap->cap<=maxLen->ic F G n (.xx o off len cap) (.slice (some ⟨G o,off,none⟩) len cap)|slice {tag l vs b o base cap sz}:iI F G n (l.flatMap AV.cells) vs->F.has b o vs->(l≠[]->base=some ⟨b,o,none⟩)->(∀x∈l,x.cells.length=sz)->(∀c∈l.flatMap AV.cells,c.gw=true)->l.length<=cap->cap<=maxLen->tag=.jU\/tag=.full/\cap=l.length->ic F G n (.slice tag l) (.slice base l.length cap)|KD {base}:ic F G n .KD (.slice base 0 0)|agg {cs vs}:iI F G n cs vs->(∀c∈cs,c.gw=true)->ic F G n (.agg cs) (.agg vs.toArray)|tuple {cs vs}:iI F G n cs vs->ic F G n (.tuple cs) (.tuple vs.toArray)|func {fn f c vf vc}:iI F G n f vf->iI F G n c vc->ic F G n (.func fn f c) (.func fn vf.toArray vc.toArray)|iface {t x v}:ic F G n x v->ic F G n (.iface t x) (.iface t v)
inductive iI (F:nc) (G:Nat->Nat) (n:Nat):List AV->List Value->Prop
 |nil:iI F G n [] []|cons {x v xs vs}:ic F G n x v->iI F G n xs vs->iI F G n (x::xs) (v::vs)
end
section
variable{F F':nc} {G G':Nat->Nat} {n n':Nat}
def iI.yS{xs vs}(h:iI F G n xs vs):iU (ic F G n) xs vs:=by
 induction xs generalizing vs with
 |nil=>cases h;exact .nil
 |cons x xs a=>cases h with|cons b c=>exact .cons b (a c)
def iI.so{xs vs}(h:iU (ic F G n) xs vs):iI F G n xs vs:=by
 induction h with
 |nil=>exact .nil|cons a _ b=>exact .cons a b
structure Kk (F F':nc) (G G':Nat->Nat) (n n':Nat):Prop where
 mF:∀b o v,F b o=some v->F' b o=some v
 mn:n<=n'
 mG:∀o,o<n->G' o=G o
def Kk.refl:Kk F F G G n n:=⟨λ_ _ _ h=>h,ig _,λ_ _=>rfl⟩
def nc.has.grow{b o vs}(h:F.has b o vs)(hg:Kk F F' G G' n n'):F'.has b o vs:=λi v a=>hg.mF _ _ _ (h i v a)
mutual
def ic.grow(hg:Kk F F' G G' n n'):∀{x v},ic F G n x v->ic F' G' n' x v
 |_,_,.undef h=>.undef h|_,_,.sc h=>.sc h|_,_,.nt a b c=>.nt (a.grow hg) (b.grow hg) c|_,_,.eS (o:=o) (off:=off) h=>by
  rw[<-hg.mG o h];exact .eS (Th h hg.mn)
 |_,_,.qZ (o:=o) h=>by
  rw[<-hg.mG o h];exact .qZ (Th h hg.mn)
 |_,_,.xx (o:=o) h b c=>by
  rw[<-hg.mG o h];exact .xx (Th h hg.mn) b c
 |_,_,.slice a b c d e f g i=>.slice (a.grow hg) (b.grow hg) c d e f g i|_,_,.KD=>.KD|_,_,.agg a b=>.agg (a.grow hg) b|_,_,.tuple a=>.tuple (a.grow hg)|_,_,.func a b=>.func (a.grow hg) (b.grow hg)|_,_,.iface a=>.iface (a.grow hg)
def iI.grow(hg:Kk F F' G G' n n'):∀{xs vs},iI F G n xs vs->iI F' G' n' xs vs
 |_,_,.nil=>.nil|_,_,.cons a b=>.cons (a.grow hg) (b.grow hg)
end
def ic.Pe{x v}(h:ic F G n x v)(a:x.gw=true):v.oneCell'=true:=by
 cases h with
 |undef h=>exact h|sc h=>revert h;cases v<;>simp[BD,Value.oneCell']
 |agg b c=>simp[AV.gw] at a
 |tuple b=>simp[AV.gw] at a
 |_=>rfl
def ic.cells{x v}(h:ic F G n x v)(d:∀vs,x≠ .tuple vs):iI F G n x.cells v.cells.toList:=by
 cases h with
 |undef h=>cases v<;>first|exact .cons (.undef h) .nil|(simp[Value.oneCell'] at h;done)
 |sc h=>cases v<;>first|exact .cons (.sc h) .nil|(simp[BD] at h;done)
 |nt a b c=>exact .cons (.nt a b c) .nil|eS a=>exact .cons (.eS a) .nil|qZ a=>exact .cons (.qZ a) .nil|xx a b c=>exact .cons (.xx a b c) .nil|slice a b c e f g i j=>exact .cons (.slice a b c e f g i j) .nil|KD=>exact .cons .KD .nil|agg a b=>exact a|tuple a=>exact absurd rfl (d _)|func a b=>exact .cons (.func a b) .nil|iface a=>exact .cons (.iface a) .nil
end
structure Maps where
 G:Nat->Nat
 n:Nat
 L:Nat->Nat->Nat
 lg:Nat->Nat
 A:Nat->Nat->Option (Nat×Nat×Nat)
 ag:Nat->Nat
def x_(ρ:Maps)(k g:Nat)(l:List AV)(base:Option Addr)(cap:Nat):Prop:=
 match ρ.A k g with
 |none=>cap=l.length|some (b,c,sz)=>base=some ⟨b,0,none⟩/\cap=c/\∀x∈l,x.cells.length=sz
inductive lH (F:nc) (ρ:Maps):AV->Value->Prop
 |p {x v}:ic F ρ.G ρ.n x v->lH F ρ x v|jo {b g off}:g<=ρ.lg b->lH F ρ (.jo b g off) (.pointer (some ⟨ρ.L b g,off,none⟩))|loc {k g l base cap}:ic F ρ.G ρ.n (.slice .jU l) (.slice base l.length cap)->g<=ρ.ag k->x_ ρ k g l base cap->lH F ρ (.slice (.loc k g) l) (.slice base l.length cap)|A3 {b g len cap}:g<=ρ.lg b->len<=cap->cap<=maxLen->lH F ρ (.A3 b g len cap) (.slice (some ⟨ρ.L b g,0,none⟩) len cap)
inductive h_ (F:nc) (ρ:Maps):AV->Value->Prop
 |cell {x v}:lH F ρ x v->h_ F ρ x v|agg {cs vs}:iU (lH F ρ) cs vs->(∀c∈cs,c.gw=true)->h_ F ρ (.agg cs) (.agg vs.toArray)
structure zc (F F':nc) (ρ ρ':Maps):Prop where
 g:Kk F F' ρ.G ρ'.G ρ.n ρ'.n
 lg:∀b,ρ.lg b<=ρ'.lg b
 L:∀b g,g<=ρ.lg b->ρ'.L b g=ρ.L b g
 ag:∀k,ρ.ag k<=ρ'.ag k
 A:∀k g,g<=ρ.ag k->ρ'.A k g=ρ.A k g
section
variable{F F':nc} {ρ ρ':Maps}
def lH.grow(hg:zc F F' ρ ρ'){x v}(h:lH F ρ x v):lH F' ρ' x v:=by
 cases h with
 |p h=>exact .p (h.grow hg.g)|jo h=>
  rename_i b g off;rw[<-hg.L b g h];exact .jo (CJ h (hg.lg b))
 |loc d a c=>
  refine .loc (d.grow hg.g) (CJ a (hg.ag _)) ?_;unfold x_;rw[hg.A _ _ a];exact c
 |A3 h a c=>
  rename_i b g len cap;rw[<-hg.L b g h];exact .A3 (CJ h (hg.lg b)) a c
def h_.grow(hg:zc F F' ρ ρ'){x v}(h:h_ F ρ x v):h_ F' ρ' x v:=by
 cases h with
 |cell h=>exact .cell (h.grow hg)|agg a b=>exact .agg (a.mono λ_ _ _ h=>h.grow hg) b
def h_.p{x v}(h:ic F ρ.G ρ.n x v):h_ F ρ x v:=.cell (.p h)
end
def AV.kM:AV->AV
 |.slice _ l=>.slice .jU l|.jo _ _ _=>.undef|.A3 _ _ _ _=>.undef|x=>x
def AV.norm:AV->AV
 |.agg cs=>.agg (cs.map AV.kM)|x=>x.kM
section
variable{F F':nc} {ρ ρ':Maps}
def ic.jU{G:Nat->Nat}{n:Nat}{tag l v}(h:ic F G n (.slice tag l) v):ic F G n (.slice .jU l) v:=by
 cases h with
 |slice a b c d e f g i=>exact .slice a b c d e f g (.inl rfl)
def ic.kM{G:Nat->Nat}{n:Nat}{x v}(h:ic F G n x v):ic F G n x.kM v:=by
 cases x with
 |slice tag l=>exact h.jU|jo b g off=>cases h
 |A3 b g len cap=>cases h
 |_=>exact h
def lH.kM{x v}(h:lH F ρ x v):ic F ρ.G ρ.n x.kM v:=by
 cases h with
 |p h=>exact h.kM|jo h=>exact .undef rfl|loc a b c=>exact a|A3 a b c=>exact .undef rfl
def AV.Kx(x:AV):x.kM.gw=x.gw:=by cases x<;>rfl
def h_.norm{x v}(h:h_ F ρ x v):ic F ρ.G ρ.n x.norm v:=by
 have d:∀{cs:List AV} {vs:List Value},iU (lH F ρ) cs vs->(∀c∈cs,c.gw=true)->ic F ρ.G ρ.n (AV.agg cs).norm (.agg vs.toArray):=by
  intro cs vs e f;refine .agg (iI.so (e.Az AV.kM λa b _ h=>h.kM)) ?_;intro c g;obtain⟨a,i,rfl⟩:=nU.1 g;rw[AV.Kx];exact f a i
 cases h with
 |agg e f=>exact d e f|cell h=>
  cases x with
  |agg cs=>
   cases h with
   |p h=>
    cases h with
    |agg e f=>exact d (e.yS.mono λ_ _ _ h=>.p h) f
  |_=>exact h.kM
def h_.cells{x v}(h:h_ F ρ x v)(d:∀vs,x≠ .tuple vs):iU (lH F ρ) x.cells v.cells.toList:=by
 cases h with
 |agg a b=>exact a|cell h=>
  cases h with
  |p h=>exact(h.cells d).yS.mono λ_ _ _ h=>.p h|jo h=>exact .cons (.jo h) .nil|loc a b c=>exact .cons (.loc a b c) .nil|A3 a b c=>exact .cons (.A3 a b c) .nil
def lH.Pe{x v}(h:lH F ρ x v)(a:x.gw=true):v.oneCell'=true:=by
 cases h with
 |p h=>exact h.Pe a|jo h=>rfl|loc b c d=>rfl|A3 b c d=>rfl
def h_.wm{x v}(h:h_ F ρ x v)(d:∀vs,x≠ .tuple vs):∀c∈x.cells,c.gw=true:=by
 cases h with
 |agg b a=>exact a|cell h=>
  cases h with
  |p h=>
   cases h with
   |agg b a=>exact a|tuple b=>exact absurd rfl (d _)|_=>simp[AV.cells,AV.gw]
  |jo h=>simp[AV.cells,AV.gw]|loc b a e=>simp[AV.cells,AV.gw]|A3 b a e=>simp[AV.cells,AV.gw]
end
end Go.ns
namespace Go.ns
open Go
abbrev dd:=List (List AV)
abbrev ec:=Nat->Option AV
structure Fr where
 env:Nat->AV
 box:Nat->Option (List AV)
 gen:Nat->Nat
 yB:Nat->Option Nat
 fu:Nat->Nat
def ia{α:Type}(f:Nat->α)(i:Nat)(x:α):Nat->α:=λj=>if j=i then x else f j
def Fr.put(fr:Fr)(d:Option Nat)(x:AV):Fr:=
 match d with
 |some d=>{fr with env:=ia fr.env d x}|none=>fr
section
variable(P:Program)
def fw(t:TypeId):Option (Bool×Nat):=
 match P.underlying t,P.info? t with
 |some d,some i=>some (match d with|.struct _|.array _ _=>true|_=>false,i.size)
 |_,_=>none
def zeroOf(t:TypeId):Option Value:=(P.info? t).bind (·.zero)
def eP(t i:Nat):Option (Nat×TypeId):=
 match P.underlying t with
 |some (.struct a)=>(a[i]?).map λf=>(f.offset,f.type)|_=>none
def Rv(t:TypeId):Option (Nat×TypeId):=
 match P.underlying t with
 |some (.array n e)=>some (n,e)|_=>none
def p0(t:TypeId)(cs:List AV)(off:Nat):Option AV:=
 match fw P t with
 |some (true,n)=>if off+n<=cs.length then some (.agg ((cs.drop off).take n))else none|some (false,_)=>cs[off]?|none=>none
def vX(t:TypeId)(x:AV):Bool:=
 match fw P t,x with
 |some (true,n),.agg cs=>cs.length==n|some (false,_),.agg _=>false|some (false,_),.tuple _=>false|some (false,_),.yM _ _=>false|some (false,_),.p_ _ _ _=>false|some (false,_),_=>true|_,_=>false
end
def setCells(cs:List AV)(off:Nat)(new:List AV):List AV:=cs.take off++new++cs.drop (off+new.length)
def uO:Value->AV
 |.slice none 0 0=>.slice .full []|.func fn f c=>if f.size=0/\c.size=0 then .func fn [] [] else .undef|.agg _=>.undef|.tuple _=>.undef|v=>if BD v then .sc v else .undef
def ofValue:Value->AV
 |.agg cs=>.agg (cs.toList.map uO)|.tuple cs=>.tuple (cs.toList.map uO)|v=>uO v
def Dz:Value->Bool
 |.agg cs=>cs.all (·.oneCell')|.tuple cs=>cs.all (·.oneCell')|_=>true
def CY(v:Value):(uO v).gw=true:=by
 unfold uO
 split<;>first|rfl|(split<;>rfl)
def KX(F:nc)(G:Nat->Nat)(n:Nat)(v:Value)(h:v.oneCell'=true):ic F G n (uO v) v:=by
 unfold uO
 split
 ·exact .slice (l:=[]) (vs:=[]) (b:=0) (o:=0) (sz:=0) .nil (λ_ _ h=>by simp at h) aaB aaB aaB aaB (by simp[maxLen]) (.inr ⟨rfl,rfl⟩)
 ·rename_i fn f c
  split
  ·rename_i hs;obtain⟨a,d⟩:=hs;have e:f=#[]:=Yg a;have g:c=#[]:=Yg d;subst e;subst g;exact .func (vf:=[]) (vc:=[]) .nil .nil
  ·exact .undef rfl
 ·simp[Value.oneCell'] at h
 ·simp[Value.oneCell'] at h
 ·split
  ·exact .sc (by assumption)
  ·exact .undef h
def uT(F:nc)(G:Nat->Nat)(n:Nat):∀(vs:List Value),(∀v∈vs,v.oneCell'=true)->iI F G n (vs.map uO) vs
 |[],_=>.nil|v::vs,h=>.cons (KX F G n v (h v aaB)) (uT F G n vs λu hu=>h u (by simp[hu]))
def KV{v:Value}(h:v.oneCell'=true):ofValue v=uO v:=by
 cases v<;>first|rfl|(simp[Value.oneCell'] at h)
def Dw(F:nc)(G:Nat->Nat)(n:Nat)(v:Value)(h:Dz v=true):ic F G n (ofValue v) v:=by
 cases v with
 |agg cs=>
  have b:∀v∈cs.toList,v.oneCell'=true:=λv d=>by
   have e:cs.all (·.oneCell')=true:=h
   exact OF.1 e v (Bn.1 d)
  exact .agg (vs:=cs.toList) (uT F G n cs.toList b) (by
   intro c f;obtain⟨a,_,rfl⟩:=nU.1 f
   exact CY a)
 |tuple cs=>
  have b:∀v∈cs.toList,v.oneCell'=true:=λv d=>by
   have e:cs.all (·.oneCell')=true:=h
   exact OF.1 e v (Bn.1 d)
  exact .tuple (vs:=cs.toList) (uT F G n cs.toList b)
 |_=>(rw[KV rfl];exact KX F G n _ rfl)
section
variable(T:ec) (fr:Fr)
def ev:Operand->AV
 |.tmp t=>fr.env t|.const v=>ofValue v|.global g=>match T g with|some x=>.nt x|none=>.undef
 |.func f=>.func (.func f) [] []
def lG:Operand->Bool
 |.const v=>Dz v|_=>true
end
def xQ(F:nc)(ρ:Maps)(fr:Fr)(a:Act):Prop:=∀t,h_ F ρ (fr.env t) (a.tmps.getD t undef)
def CM(T:ec)(F:nc)(ρ:Maps):Prop:=∀g x,T g=some x->ic F ρ.G ρ.n (.nt x) (.pointer (some ⟨g,0,none⟩))
def hV{T:ec}{fr:Fr}{F:nc}{ρ:Maps}{a:Act}(he:xQ F ρ fr a)(b:CM T F ρ)(x:Operand)(c:lG x=true):h_ F ρ (ev T fr x) (a.eval x):=by
 cases x with
 |tmp t=>exact he t|const v=>exact .p (Dw _ _ _ v c)|global g=>
  show h_ F ρ (match T g with|some x=>.nt x|none=>.undef) _;cases h:T g with
  |none=>exact .p (.undef rfl)|some x=>exact .p (b g x h)
 |func f=>exact .p (.func (vf:=[]) (vc:=[]) .nil .nil)
def uJ(op:BinOp)(k:IntKind)(a b:Int):Option Value:=
 match op with
 |.add=>some (.int k (k.wrap (a+b)))|.sub=>some (.int k (k.wrap (a-b)))|.mul=>some (.int k (k.wrap (a*b)))|.quo=>if b=0 then none else some (.int k (k.wrap (a.tdiv b)))|.rem=>if b=0 then none else some (.int k (a.tmod b))|.and=>some (.int k (k.wrap (BitVec.ofInt k.bits a&&&BitVec.ofInt k.bits b).toNat))|.or=>some (.int k (k.wrap (BitVec.ofInt k.bits a|||BitVec.ofInt k.bits b).toNat))|.xor=>some (.int k (k.wrap (BitVec.ofInt k.bits a^^^BitVec.ofInt k.bits b).toNat))|.andNot=>some (.int k (k.wrap (BitVec.ofInt k.bits a&&&~~~BitVec.ofInt k.bits b).toNat))|.eql=>some (.bool (a==b))|.neq=>some (.bool (a !=b))|.lss=>some (.bool (a<b))|.leq=>some (.bool (a<=b))|.gtr=>some (.bool (a>b))|.geq=>some (.bool (a>=b))|_=>none
def Qw(op:BinOp)(x y:ByteArray):Option Value:=
 match op with
 |.add=>if((x.size+y.size:Nat):Int)>IntKind.i64.max then none else some (.string (x++y))|.eql=>some (.bool (x.toList==y.toList))|.neq=>some (.bool !(x.toList==y.toList))|.lss=>some (.bool (Op.bytesLess x.toList y.toList))|.leq=>some (.bool (Op.bytesLess x.toList y.toList||x.toList==y.toList))|.gtr=>some (.bool !(Op.bytesLess x.toList y.toList||x.toList==y.toList))|.geq=>some (.bool !(Op.bytesLess x.toList y.toList))|_=>none
def I':AV->Bool
 |.nt _|.jo _ _ _|.eS _ _=>true|_=>false
def vO(P:Program)(op:BinOp)(t:TypeId)(x y:AV):Option AV:=
 match op,x,y with
 |.shl,.sc (.int k a),.sc (.int _ b)=>if b<0 then none else some (.sc (.int k (k.wrap (a*2^min b.toNat k.bits))))|.shr,.sc (.int k a),.sc (.int _ b)=>if b<0 then none else some (.sc (.int k (a.fdiv (2^min b.toNat k.bits))))|op,.sc (.int k a),.sc (.int k' b)=>if k=k' then(uJ op k a b).map .sc else none|op,.sc (.string a),.sc (.string b)=>(Qw op a b).map .sc|.eql,.sc (.bool a),.sc (.bool b)=>match P.underlying t with|some .bool=>some (.sc (.bool (a==b)))|_=>none
 |.neq,.sc (.bool a),.sc (.bool b)=>match P.underlying t with|some .bool=>some (.sc (.bool (!(a==b))))|_=>none
 |.eql,x,.sc (.pointer none)=>match P.underlying t with
  |some (.pointer _)=>if I' x then some (.sc (.bool false))else(match x with|.sc (.pointer none)=>some (.sc (.bool true))|_=>none)
  |_=>none
 |.neq,x,.sc (.pointer none)=>match P.underlying t with
  |some (.pointer _)=>if I' x then some (.sc (.bool true))else(match x with|.sc (.pointer none)=>some (.sc (.bool false))|_=>none)
  |_=>none
 |.eql,.func _ _ _,.sc .nilFunc=>match P.underlying t with|some (.func ..)=>some (.sc (.bool false))|_=>none
 |.neq,.func _ _ _,.sc .nilFunc=>match P.underlying t with|some (.func ..)=>some (.sc (.bool true))|_=>none
 |.eql,.sc .nilFunc,.sc .nilFunc=>match P.underlying t with|some (.func ..)=>some (.sc (.bool true))|_=>none
 |.neq,.sc .nilFunc,.sc .nilFunc=>match P.underlying t with|some (.func ..)=>some (.sc (.bool false))|_=>none
 |_,_,_=>none
def unA(op:UnOp)(x:AV):Option AV:=
 match op,x with
 |.neg,.sc (.int k n)=>some (.sc (.int k (k.wrap (0-n))))|.not,.sc (.bool b)=>some (.sc (.bool !b))|_,_=>none
def gK{F:nc}{ρ:Maps}{u v:Value}(h:h_ F ρ (.sc u) v):v=u:=by
 cases h with
 |cell h=>cases h with|p h=>cases h;rfl
def NG(P:Program)(w:World){op:BinOp}{k:IntKind}{a b:Int}{v:Value}(t:TypeId)(h:uJ op k a b=some v):(binOp op t (.int k a) (.int k b)).run P w=.ok v w/\BD v=true:=by
 cases op<;>simp only[uJ,wh,reduceCtorEq] at h<;>(try(split at h))<;>
  (first
   |(subst h;refine⟨?_,rfl⟩;simp[binOp,Op.intArith,Op.intBits,Op.intCmp,Op.intDiv, *])
   |(cases h;refine⟨?_,rfl⟩;simp[binOp,Op.intArith,Op.intBits,Op.intCmp,Op.intDiv, *])
   |cases h)
def NK(P:Program)(w:World){op:BinOp}{a b:ByteArray}{v:Value}(t:TypeId)(h:Qw op a b=some v):(binOp op t (.string a) (.string b)).run P w=.ok v w/\BD v=true:=by
 cases op<;>simp only[Qw,wh,reduceCtorEq] at h<;>(try(split at h))<;>
  (first
   |(subst h;refine⟨?_,rfl⟩;simp[binOp,Op.stringOp, *])
   |(cases h;refine⟨?_,rfl⟩;simp_all [binOp,Op.stringOp])
   |cases h)
def Jd{F:nc}{ρ:Maps}{x:AV}{v:Value}(b:I' x=true)(h:h_ F ρ x v):∃a,v=.pointer (some a):=by
 cases h with
 |agg c d=>simp[I'] at b
 |cell h=>
  cases h with
  |jo h=>exact⟨_,rfl⟩|loc c d e=>simp[I'] at b
  |A3 c d e=>simp[I'] at b
  |p h=>cases h<;>first|(simp[I'] at b;done)|exact⟨_,rfl⟩
def DE{P:Program}{t e:TypeId}(h:P.underlying t=some (.pointer e)):P.underlying t=some (.pointer (P.pointee t)):=by
 simp[Program.pointee,h]
def FO{F:nc}{ρ:Maps}{fn:Fn}{f c:List AV}{v:Value}(h:h_ F ρ (.func fn f c) v):∃vf vc:List Value,v=.func fn vf.toArray vc.toArray/\iU (ic F ρ.G ρ.n) f vf/\iU (ic F ρ.G ρ.n) c vc:=by
 cases h with
 |cell h=>cases h with
  |p h=>cases h with|func a b=>exact⟨_,_,rfl,a.yS,b.yS⟩
def Ul(P:Program)(w:World){t:TypeId}{ps rs:Array TypeId}{b:Bool}(hu:P.underlying t=some (.func ps rs b))(fn:Fn)(f c:Array Value):(binOp .eql t (.func fn f c) .nilFunc).run P w=.ok (.bool false) w/\(binOp .neq t (.func fn f c) .nilFunc).run P w=.ok (.bool true) w:=by
 have h:∀d,(Op.equalIn (d+1) t (.func fn f c) .nilFunc).run P w=.ok false w:=λd=>by simp[Op.equalIn,run_underlying hu]
 have a:binOp .eql t (.func fn f c) .nilFunc=(do pure (.bool (<-Op.equalIn (9999+1) t (.func fn f c) .nilFunc))):=rfl;have e:binOp .neq t (.func fn f c) .nilFunc=(do pure (.bool (!(<-Op.equalIn (9999+1) t (.func fn f c) .nilFunc)))):=rfl;rw[a,e,jn,jn,h 9999];exact⟨rfl,rfl⟩
def UA(P:Program)(w:World){t:TypeId}{ps rs:Array TypeId}{b:Bool}(hu:P.underlying t=some (.func ps rs b)):(binOp .eql t .nilFunc .nilFunc).run P w=.ok (.bool true) w/\(binOp .neq t .nilFunc .nilFunc).run P w=.ok (.bool false) w:=by
 have h:∀d,(Op.equalIn (d+1) t .nilFunc .nilFunc).run P w=.ok true w:=λd=>by simp[Op.equalIn,run_underlying hu]
 have a:binOp .eql t .nilFunc .nilFunc=(do pure (.bool (<-Op.equalIn (9999+1) t .nilFunc .nilFunc))):=rfl;have c:binOp .neq t .nilFunc .nilFunc=(do pure (.bool (!(<-Op.equalIn (9999+1) t .nilFunc .nilFunc)))):=rfl;rw[a,c,jn,jn,h 9999];exact⟨rfl,rfl⟩
def Qd:Value->Bool
 |.nilIface=>false|.agg _=>false|_=>true
def RS(P:Program)(w:World)(op:BinOp)(t:TypeId)(x y:Operand){u v:Value}(h:Qd u=true):(eqGuard op t x y u v).run P w=.ok () w:=by
 unfold eqGuard
 cases u<;>first|(simp[Qd] at h;done)|(cases op<;>rfl)
def UG(P:Program)(w:World){F:nc}{ρ:Maps}{op:BinOp}{t:TypeId}{x y r:AV}{u v:Value}(h:vO P op t x y=some r)
  (b:h_ F ρ x u) (hy:h_ F ρ y v):∃z,(binOp op t u v).run P w=.ok z w/\r=.sc z/\BD z=true/\Qd u=true:=by
 unfold vO at h
 split at h
 ·cases gK b;cases gK hy
  split at h
  ·cases h
  ·rename_i c;cases h;exact⟨_,by simp[binOp,Op.shift,c],rfl,rfl,rfl⟩
 ·cases gK b;cases gK hy
  split at h
  ·cases h
  ·rename_i c;cases h;exact⟨_,by simp[binOp,Op.shift,c],rfl,rfl,rfl⟩
 ·cases gK b;cases gK hy
  split at h
  ·rename_i e;subst e;cases hi:uJ op _ _ _ with
   |none=>rw[hi] at h;cases h
   |some z=>
    rw[hi] at h;cases h;exact⟨z,(NG P w t hi).1,rfl,(NG P w t hi).2,rfl⟩
  ·cases h
 ·cases gK b;cases gK hy;cases hi:Qw op _ _ with
  |none=>rw[hi] at h;cases h
  |some z=>
   rw[hi] at h;cases h;exact⟨z,(NK P w t hi).1,rfl,(NK P w t hi).2,rfl⟩
 ·cases gK b;cases gK hy
  split at h
  ·rename_i hu;cases h;exact⟨_,run_eql_bool w t _ _ hu,rfl,rfl,rfl⟩
  ·cases h
 ·cases gK b;cases gK hy
  split at h
  ·rename_i hu;cases h;exact⟨_,run_neq_bool w t _ _ hu,rfl,rfl,rfl⟩
  ·cases h
 ·cases gK hy
  split at h
  ·rename_i hu
   split at h
   ·rename_i d;obtain⟨a,rfl⟩:=Jd d b;cases h;exact⟨_,run_eql_pointer_nil w t _ (DE hu),aaB,rfl,rfl⟩
   ·split at h
    ·cases gK b;cases h;exact⟨_,run_eql_pointer_nil w t _ (DE hu),aaB,rfl,rfl⟩
    ·cases h
  ·cases h
 ·cases gK hy
  split at h
  ·rename_i hu
   split at h
   ·rename_i d;obtain⟨a,rfl⟩:=Jd d b;cases h;exact⟨_,run_neq_pointer_nil w t _ (DE hu),aaB,rfl,rfl⟩
   ·split at h
    ·cases gK b;cases h;exact⟨_,run_neq_pointer_nil w t _ (DE hu),aaB,rfl,rfl⟩
    ·cases h
  ·cases h
 ·cases gK hy;obtain⟨vf,vc,rfl,_,_⟩:=FO b
  split at h
  ·rename_i hu;cases h;exact⟨.bool false,(Ul P w hu _ _ _).1,rfl,rfl,rfl⟩
  ·cases h
 ·cases gK hy;obtain⟨vf,vc,rfl,_,_⟩:=FO b
  split at h
  ·rename_i hu;cases h;exact⟨.bool true,(Ul P w hu _ _ _).2,rfl,rfl,rfl⟩
  ·cases h
 ·cases gK b;cases gK hy
  split at h
  ·rename_i hu;cases h;exact⟨.bool true,(UA P w hu).1,rfl,rfl,rfl⟩
  ·cases h
 ·cases gK b;cases gK hy
  split at h
  ·rename_i hu;cases h;exact⟨.bool false,(UA P w hu).2,rfl,rfl,rfl⟩
  ·cases h
 ·cases h
end Go.ns
namespace Go.ns
open Go
def rX{l:List AV}{sz:Nat}(h:∀x∈l,x.cells.length=sz):(l.flatMap AV.cells).length=l.length*sz:=by
 induction l with
 |nil=>simp|cons x l a=>
  rw[Es,qI,a λy hy=>h y (by simp[hy]),h x aaB,hW,A7,Xt,abJ]
def HR{l:List AV}{sz:Nat}(h:∀x∈l,x.cells.length=sz)(n:Nat):(l.take n).flatMap AV.cells=(l.flatMap AV.cells).take (n*sz):=by
 induction l generalizing n with
 |nil=>simp|cons x l a=>
  cases n with
  |zero=>simp|succ n=>
   have b:=h x aaB
   rw[List.take_succ_cons,Es,Es,a (λy hy=>h y (by simp[hy])),A7,Xt,List.take_append,b,Y' (l:=x.cells) VW,XA]
def CQ{l:List AV}{sz:Nat}(h:∀x∈l,x.cells.length=sz)(n:Nat):(l.drop n).flatMap AV.cells=(l.flatMap AV.cells).drop (n*sz):=by
 induction l generalizing n with
 |nil=>simp|cons x l a=>
  cases n with
  |zero=>simp|succ n=>
   have b:=h x aaB
   rw[List.drop_succ_cons,Es,a (λy hy=>h y (by simp[hy])),A7,Xt,aap,b,H9 (as:=x.cells) VW,XA,kW]
def R6{l:List AV}{sz:Nat}(h:∀x∈l,x.cells.length=sz){i:Nat}{x:AV}(hi:l[i]?=some x):((l.flatMap AV.cells).drop (i*sz)).take sz=x.cells:=by
 have b:=CQ h i;have a:i<l.length:=(qb.1 hi).1
 have c:l.drop i=x::l.drop (i+1):=by
  have:=L2 a;rw[this]
  congr 1
  exact(qb.1 hi).2
 rw[<-b,c,Es,List.take_append,Y' (by have:=h x (D8 hi);omega)];simp[h x (D8 hi)]
def nc.has.drop{F:nc}{b o:Nat}{vs:List Value}(h:F.has b o vs)(n:Nat):F.has b (o+n) (vs.drop n):=by
 intro i v a;rw[UT] at a;have:=h _ v a
 rwa [<-Nf] at this
def nc.has.take{F:nc}{b o:Nat}{vs:List Value}(h:F.has b o vs)(n:Nat):F.has b o (vs.take n):=by
 intro i v a;rw[Me] at a
 split at a
 ·exact h i v a
 ·cases a
section
variable{F:nc} {G:Nat->Nat} {n:Nat}
def iI.drop{xs vs}(h:iI F G n xs vs)(k:Nat):iI F G n (xs.drop k) (vs.drop k):=.so (h.yS.drop k)
def iI.take{xs vs}(h:iI F G n xs vs)(k:Nat):iI F G n (xs.take k) (vs.take k):=.so (h.yS.take k)
def iI.get{xs vs}(h:iI F G n xs vs){i:Nat}{x:AV}(a:xs[i]?=some x):∃v,vs[i]?=some v/\ic F G n x v:=h.yS.get a
def iI.length{xs vs}(h:iI F G n xs vs):xs.length=vs.length:=h.yS.length
def iI.append{xs vs a vs'}(h:iI F G n xs vs)(b:iI F G n a vs'):iI F G n (xs++a) (vs++vs'):=.so (h.yS.append b.yS)
end
def AV.FL{x:AV}(h:x.gw=true):x.cells=[x]:=by cases x<;>first|rfl|(simp[AV.gw] at h)
section
variable{P:Program}
def KO{t:TypeId}{b:Bool}{n:Nat}(h:fw P t=some (b,n)):∃d i,P.underlying t=some d/\P.info? t=some i/\i.size=n/\(match d with|.struct _|.array _ _=>true|_=>false)=b:=by
 unfold fw at h
 split at h
 ·rename_i d i a hi;injection h with h;injection h with c e;exact⟨d,i,a,hi,e,c⟩
 ·cases h
def m_{t:TypeId}{b:Bool}{n:Nat}(h:fw P t=some (b,n))(w:World):(sizeOf t).run P w=.ok n w:=by
 obtain⟨d,i,a,hi,hn,_⟩:=KO h;simp[sizeOf,typeInfo,hi,hn]
def CI{t:TypeId}{b:Bool}{n:Nat}(h:fw P t=some (b,n))(w:World):(isAgg t).run P w=.ok b w:=by
 obtain⟨d,i,a,hi,hn,c⟩:=KO h;subst c;unfold isAgg;rw[jn,run_underlying a];cases d<;>rfl
def Fj{t:TypeId}{cs:List AV}{off:Nat}{z:AV}(h:p0 P t cs off=some z):(∃k,fw P t=some (true,k)/\off+k<=cs.length/\z=.agg ((cs.drop off).take k))\/(∃k,fw P t=some (false,k)/\cs[off]?=some z):=by
 unfold p0 at h
 split at h
 ·split at h
  ·rename_i k a hle;injection h with h;exact .inl ⟨k,a,hle,h.symm⟩
  ·cases h
 ·rename_i k a;exact .inr ⟨k,a,h⟩
 ·cases h
def D6{t:TypeId}{k:Nat}(h:fw P t=some (true,k))(w:World)(a:Addr)(vs:List Value)(b:vs.length=k)
  (c:∀j v,vs[j]?=some v->w.cell? (a.add j)=some v):(loadVar t a).run P w=.ok (.agg vs.toArray) w:=by
 unfold loadVar;rw[jn,CI h];simp only[lL,if_true];rw[jn,m_ h,lL,jn,<-b,run_loadCells_list w a vs c];rfl
def D4{t:TypeId}{k:Nat}(h:fw P t=some (false,k))(w:World)(a:Addr)(v:Value)(b:w.cell? a=some v):(loadVar t a).run P w=.ok v w:=by
 unfold loadVar;rw[jn,CI h];simp[load,Sem.run,b]
end
def vw(P:Program)(t:TypeId)(x:AV)(i:Nat):Option AV:=
 match eP P t i with
 |none=>none|some (off,a)=>
  match fw P a with
  |none=>none|some (_,n)=>
   if n=0 then none else
   match x with
   |.jo b g o=>some (.jo b g (o+off))|.eS o f=>some (.eS o (f+off))|.nt y=>(p0 P a y.cells off).map .nt|_=>none
def DM(P:Program)(t:TypeId)(x:AV)(i:Nat):Option AV:=
 match eP P t i,x with
 |some (off,a),.agg cs=>p0 P a cs off|_,_=>none
def gO(P:Program)(t:TypeId)(x i:AV):Option AV:=
 match i with
 |.sc (.int _ n)=>
  match P.underlying t,x with
  |some (.slice e),.slice _ l=>
   if 0<=n then
    match l[n.toNat]?,fw P e with
    |some y,some (_,sz)=>if y.cells.length=sz then some (.nt y)else none|_,_=>none
   else none
  |some (.slice e),.A3 b g len _=>
   match fw P e with
   |some (_,sz)=>if 0<=n/\n<len then some (.jo b g (n.toNat*sz))else none|none=>none
  |some (.slice e),.xx b off len _=>
   match fw P e with
   |some (_,sz)=>if 0<=n/\n<len then some (.eS b (off+n.toNat*sz))else none|none=>none
  |some (.array len e),.jo b g o=>
   match fw P e with
   |some (_,sz)=>if 0<=n/\n<len then some (.jo b g (o+n.toNat*sz))else none|none=>none
  |some (.array len e),.eS a o=>
   match fw P e with
   |some (_,sz)=>if 0<=n/\n<len then some (.eS a (o+n.toNat*sz))else none|none=>none
  |some (.array len e),.nt y=>
   match fw P e with
   |some (_,sz)=>if 0<=n/\n<len then(p0 P e y.cells (n.toNat*sz)).map .nt else none|none=>none
  |_,_=>none
 |_=>none
def JE(P:Program)(t:TypeId)(x i:AV):Option AV:=
 match i with
 |.sc (.int _ n)=>
  match P.underlying t,x with
  |some .string,.sc (.string s)=>if 0<=n then(s[n.toNat]?).map λb=>.sc (.int .u8 b.toNat)else none|some (.array len e),.agg cs=>
   match fw P e with
   |some (_,sz)=>if 0<=n/\n<len then p0 P e cs (n.toNat*sz)else none|none=>none
  |_,_=>none
 |_=>none
section
variable{P:Program} {F:nc} {ρ:Maps}
def Ip{cs:List AV}{v:Value}(h:h_ F ρ (.agg cs) v):∃vs:List Value,v=.agg vs.toArray/\iU (lH F ρ) cs vs/\∀c∈cs,c.gw=true:=by
 cases h with
 |agg a b=>exact⟨_,rfl,a,b⟩|cell h=>cases h with
  |p h=>cases h with|agg a b=>exact⟨_,rfl,a.yS.mono λ_ _ _ h=>.p h,b⟩
def TO{cs:List AV}{v:Value}(h:h_ F ρ (.tuple cs) v):∃vs:List Value,v=.tuple vs.toArray/\iU (ic F ρ.G ρ.n) cs vs:=by
 cases h with
 |cell h=>cases h with
  |p h=>cases h with|tuple a=>exact⟨_,rfl,a.yS⟩
def zL{b g off:Nat}{v:Value}(h:h_ F ρ (.jo b g off) v):v=.pointer (some ⟨ρ.L b g,off,none⟩)/\g<=ρ.lg b:=by
 cases h with
 |cell h=>cases h with
  |p h=>cases h
  |jo h=>exact⟨rfl,h⟩
def zM{o off:Nat}{v:Value}(h:h_ F ρ (.eS o off) v):v=.pointer (some ⟨ρ.G o,off,none⟩)/\o<ρ.n:=by
 cases h with
 |cell h=>cases h with
  |p h=>cases h with|eS h=>exact⟨rfl,h⟩
def J7{x:AV}{v:Value}(h:h_ F ρ (.nt x) v):∃b o vs,v=.pointer (some ⟨b,o,none⟩)/\iI F ρ.G ρ.n x.cells vs/\F.has b o vs/\∀c∈x.cells,c.gw=true:=by
 cases h with
 |cell h=>cases h with
  |p h=>cases h with|nt a d e=>exact⟨_,_,_,rfl,a,d,e⟩
def E8{b g len cap:Nat}{v:Value}(h:h_ F ρ (.A3 b g len cap) v):v=.slice (some ⟨ρ.L b g,0,none⟩) len cap/\g<=ρ.lg b/\len<=cap/\cap<=maxLen:=by
 cases h with
 |cell h=>cases h with
  |p h=>cases h
  |A3 a c d=>exact⟨rfl,a,c,d⟩
def HZ{o off len cap:Nat}{v:Value}(h:h_ F ρ (.xx o off len cap) v):v=.slice (some ⟨ρ.G o,off,none⟩) len cap/\o<ρ.n/\len<=cap/\cap<=maxLen:=by
 cases h with
 |cell h=>cases h with
  |p h=>cases h with|xx a b c=>exact⟨rfl,a,b,c⟩
structure Yt (F:nc) (ρ:Maps) (l:List AV) (base:Option Addr) (cap b o sz:Nat) (vs:List Value):Prop where
 cells:iI F ρ.G ρ.n (l.flatMap AV.cells) vs
 has:F.has b o vs
 base:l≠[]->base=some ⟨b,o,none⟩
 sz:∀x∈l,x.cells.length=sz
 wm:∀c∈l.flatMap AV.cells,c.gw=true
 Gc:l.length<=cap
 Gy:cap<=maxLen
def ic.OY{G:Nat->Nat}{n:Nat}{tag:Tag}{l:List AV}{v:Value}(h:ic F G n (.slice tag l) v):∃base cap b o sz vs,v=.slice base l.length cap/\iI F G n (l.flatMap AV.cells) vs/\F.has b o vs/\(l≠[]->base=some ⟨b,o,none⟩)/\(∀x∈l,x.cells.length=sz)/\(∀c∈l.flatMap AV.cells,c.gw=true)/\l.length<=cap/\cap<=maxLen/\(tag=.jU\/tag=.full/\cap=l.length):=by
 cases h with|slice a d e f g i j k=>exact⟨_,_,_,_,_,_,rfl,a,d,e,f,g,i,j,k⟩
def qM{tag:Tag}{l:List AV}{v:Value}(h:h_ F ρ (.slice tag l) v):∃base cap b o sz vs,v=.slice base l.length cap/\Yt F ρ l base cap b o sz vs/\(tag=.full->cap=l.length)/\(∀k g,tag=.loc k g->g<=ρ.ag k/\x_ ρ k g l base cap):=by
 cases h with
 |cell h=>cases h with
  |p h=>
   obtain⟨base,cap,b,o,sz,vs,rfl,a,c,d,e,f,i,j,h8⟩:=h.OY;refine⟨base,cap,b,o,sz,vs,rfl,⟨a,c,d,e,f,i,j⟩,?_,?_⟩
   ·rintro rfl;rcases h8 with h8|h8
    ·cases h8
    ·exact h8.2
   ·rintro k g rfl;rcases h8 with h8|h8
    ·cases h8
    ·cases h8.1
  |loc a c d=>
   obtain⟨base,cap,b,o,sz,vs,he,a,m,n,e,f,i,j,h8⟩:=a.OY;injection he with q r s;subst q;subst s;refine⟨_,_,b,o,sz,vs,rfl,⟨a,m,n,e,f,i,j⟩,(by intro h;cases h),?_⟩;rintro k g he;injection he with q r;subst q;subst r;exact⟨c,d⟩
def OM{G:Nat->Nat}{n:Nat}{cs:List AV}{vs:List Value}{b o:Nat}{t:TypeId}{off:Nat}{z:AV}(e:iI F G n cs vs)(f:F.has b o vs)(g:∀c∈cs,c.gw=true)
  (h:p0 P t cs off=some z):ic F G n (.nt z) (.pointer (some ⟨b,o+off,none⟩)):=by
 rcases Fj h with⟨k,j,hle,rfl⟩|⟨k,j,d⟩
 ·exact .nt ((e.drop off).take k) ((f.drop off).take k) (λc d=>g c (Nl (Hi d)))
 ·obtain⟨v,l,m⟩:=e.get d;have a:=g z (D8 d);refine .nt (vs:=[v]) (by rw[AV.FL a];exact .cons m .nil) ?_ (by rw[AV.FL a];simpa using a);intro i u hu;cases i with
  |zero=>simp at hu;subst hu;exact f off _ l
  |succ i=>simp at hu
def N5(w:World){t:TypeId}{x r:AV}{u:Value}{i:Nat}(h:vw P t x i=some r)(j:h_ F ρ x u):∃v,(Instr.fieldAt t u i).run P w=.ok v w/\h_ F ρ r v:=by
 unfold vw at h
 split at h
 ·cases h
 ·rename_i off l c
  split at h
  ·cases h
  ·rename_i agg n m
   split at h
   ·cases h
   ·rename_i hn
    have e:∃d f,P.underlying t=some (.struct d)/\d[i]?=some f/\f.offset=off/\f.type=l:=by
     unfold eP at c
     split at c
     ·rename_i d hu;cases a:d[i]?with
      |none=>rw[a] at c;cases c
      |some f=>
       rw[a] at c;simp at c;exact⟨d,f,hu,a,c.1,c.2⟩
     ·cases c
    obtain⟨d,f,hu,a,rfl,rfl⟩:=e
    have key:∀b o:Nat,(Instr.fieldAt t (.pointer (some ⟨b,o,none⟩)) i).run P w=.ok (.pointer (some ⟨b,o+f.offset,none⟩)) w:=by
     intro b o;unfold Instr.fieldAt;rw[jn,run_underlying hu,lL];simp only[a,Instr.sureAddr,jn,sN,lL,fieldPlace,m_ m,hn,jC,Addr.add_lit]
    split at h
    ·rename_i b g o;cases h;obtain⟨rfl,hg⟩:=zL j;exact⟨_,key _ _,.cell (.jo hg)⟩
    ·rename_i o B;cases h;obtain⟨rfl,hg⟩:=zM j;exact⟨_,key _ _,.p (.eS hg)⟩
    ·rename_i y;obtain⟨b,o,vs,rfl,q,s,A⟩:=J7 j;cases k:p0 P f.type y.cells f.offset with
     |none=>rw[k] at h;cases h
     |some z=>
      rw[k] at h;cases h;exact⟨_,key _ _,.p (OM q s A k)⟩
    ·cases h
def IX(w:World){t:TypeId}{cs:List AV}{vs:List Value}{off:Nat}{z:AV}(d:iU (lH F ρ) cs vs)(e:∀c∈cs,c.gw=true)(f:p0 P t cs off=some z):∃v,(part t vs.toArray off).run P w=.ok v w/\h_ F ρ z v:=by
 rcases Fj f with⟨k,a,hle,rfl⟩|⟨k,a,b⟩
 ·refine⟨.agg ((vs.drop off).take k).toArray,?_,.agg ((d.drop off).take k) (λc b=>e c (Nl (Hi b)))⟩;unfold part;rw[jn,CI a];simp only[lL,if_true,jn,m_ a,sN]
  congr 3
  simp[List.drop_take]
 ·obtain⟨v,g,h⟩:=d.get b;refine⟨v,?_,.cell h⟩;unfold part;rw[jn,CI a];simp[g]
def U0(w:World){t:TypeId}{x r:AV}{u:Value}{i:Nat}(h:DM P t x i=some r)(e:h_ F ρ x u):∃v,(Instr.field t u i).run P w=.ok v w/\h_ F ρ r v:=by
 unfold DM at h
 split at h
 ·rename_i off g cs b;obtain⟨vs,rfl,j,k⟩:=Ip e
  have d:∃c f,P.underlying t=some (.struct c)/\c[i]?=some f/\f.offset=off/\f.type=g:=by
   unfold eP at b
   split at b
   ·rename_i c hu;cases a:c[i]?with
    |none=>rw[a] at b;cases b
    |some f=>
     rw[a] at b;simp at b;exact⟨c,f,hu,a,b.1,b.2⟩
   ·cases b
  obtain⟨c,f,hu,a,rfl,rfl⟩:=d;obtain⟨v,l,m⟩:=IX w j k h;refine⟨v,?_,m⟩;unfold Instr.field;rw[jn,run_underlying hu,lL];simp only[a,asAgg,jn,sN,lL,l]
 ·cases h
def Ob(w:World){t:TypeId}{x i r:AV}{u j:Value}(h:gO P t x i=some r)(m:h_ F ρ x u)(hi:h_ F ρ i j):∃v,(Instr.indexAt t u j).run P w=.ok v w/\h_ F ρ r v:=by
 unfold gO at h
 split at h
 ·rename_i k n;cases gK hi
  split at h
  ·rename_i e tag l hu
   split at h
   ·rename_i hn
    split at h
    ·rename_i y agg sz hy a
     split at h
     ·rename_i s;cases h;obtain⟨base,cap,b,o,d,vs,rfl,hs,_,_⟩:=qM m;have A:n.toNat<l.length:=(qb.1 hy).1
      have B:l≠[]:=by rintro rfl;simp at A
      have f:=D8 hy
      have q:d=sz:=by rw[<-hs.sz y f,s]
      subst q;rw[hs.base B];refine⟨.pointer (some ⟨b,o+n.toNat*d,none⟩),?_,.p (.nt (vs:=(vs.drop (n.toNat*d)).take d) ?_ ?_ ?_)⟩
      ·unfold Instr.indexAt;simp only[asIntOf,jn,sN,lL,run_underlying hu];rw[cK ⟨hn,VW⟩];simp only[jn,sN,lL,m_ a,Addr.add_lit]
      ·rw[<-R6 hs.sz hy];exact(hs.cells.drop _).take _
      ·exact(hs.has.drop _).take _
      ·intro c D;exact hs.wm c (WL.2 ⟨y,f,D⟩)
     ·cases h
    ·cases h
   ·cases h
  ·rename_i e b g len cap hu
   split at h
   ·rename_i agg sz a
    split at h
    ·rename_i hn;cases h;obtain⟨rfl,hg,_,_⟩:=E8 m;refine⟨.pointer (some ⟨ρ.L b g,n.toNat*sz,none⟩),?_,.cell (.jo hg)⟩;unfold Instr.indexAt;simp only[asIntOf,jn,sN,lL,run_underlying hu];rw[cK ⟨hn.1,VW⟩];simp only[jn,sN,lL,m_ a,Addr.add_lit,tG]
    ·cases h
   ·cases h
  ·rename_i e b off len cap hu
   split at h
   ·rename_i agg sz a
    split at h
    ·rename_i hn;cases h;obtain⟨rfl,hg,_,_⟩:=HZ m;refine⟨.pointer (some ⟨ρ.G b,off+n.toNat*sz,none⟩),?_,.p (.eS hg)⟩;unfold Instr.indexAt;simp only[asIntOf,jn,sN,lL,run_underlying hu];rw[cK ⟨hn.1,VW⟩];simp only[jn,sN,lL,m_ a,Addr.add_lit]
    ·cases h
   ·cases h
  ·rename_i len e b g o hu
   split at h
   ·rename_i agg sz a
    split at h
    ·rename_i hn;cases h;obtain⟨rfl,hg⟩:=zL m;refine⟨.pointer (some ⟨ρ.L b g,o+n.toNat*sz,none⟩),?_,.cell (.jo hg)⟩;unfold Instr.indexAt;simp only[asIntOf,Instr.sureAddr,jn,sN,lL,run_underlying hu];rw[cK hn];simp only[jn,sN,lL,m_ a,Addr.add_lit]
    ·cases h
   ·cases h
  ·rename_i len e E o hu
   split at h
   ·rename_i agg sz a
    split at h
    ·rename_i hn;cases h;obtain⟨rfl,hg⟩:=zM m;refine⟨.pointer (some ⟨ρ.G E,o+n.toNat*sz,none⟩),?_,.p (.eS hg)⟩;unfold Instr.indexAt;simp only[asIntOf,Instr.sureAddr,jn,sN,lL,run_underlying hu];rw[cK hn];simp only[jn,sN,lL,m_ a,Addr.add_lit]
    ·cases h
   ·cases h
  ·rename_i len e y hu
   split at h
   ·rename_i agg sz a
    split at h
    ·rename_i hn;obtain⟨b,o,vs,rfl,H,I,J⟩:=J7 m;cases C:p0 P e y.cells (n.toNat*sz)with
     |none=>rw[C] at h;cases h
     |some z=>
      rw[C] at h;cases h;refine⟨.pointer (some ⟨b,o+n.toNat*sz,none⟩),?_,.p (OM H I J C)⟩;unfold Instr.indexAt;simp only[asIntOf,Instr.sureAddr,jn,sN,lL,run_underlying hu];rw[cK hn];simp only[jn,sN,lL,m_ a,Addr.add_lit]
    ·cases h
   ·cases h
  ·cases h
 ·cases h
def Vn(w:World){t:TypeId}{x i r:AV}{u j:Value}(h:JE P t x i=some r)(c:h_ F ρ x u)(hi:h_ F ρ i j):∃v,(Instr.index t u j).run P w=.ok v w/\h_ F ρ r v:=by
 unfold JE at h
 split at h
 ·rename_i k n;cases gK hi
  split at h
  ·rename_i s hu;cases gK c
   split at h
   ·rename_i hn;cases a:s[n.toNat]?with
    |none=>rw[a] at h;cases h
    |some b=>
     rw[a] at h;cases h;refine⟨.int .u8 b.toNat,?_,.p (.sc rfl)⟩;unfold Instr.index;simp[asIntOf,run_underlying hu,hn,a]
   ·cases h
  ·rename_i len e cs hu
   split at h
   ·rename_i agg sz d
    split at h
    ·rename_i hn;obtain⟨vs,rfl,f,g⟩:=Ip c;obtain⟨v,l,m⟩:=IX w f g h;refine⟨v,?_,m⟩;unfold Instr.index;simp only[asIntOf,jn,sN,lL,run_underlying hu];rw[cK hn];simp only[jn,m_ d,lL,l]
    ·cases h
   ·cases h
  ·cases h
 ·cases h
end
end Go.ns
