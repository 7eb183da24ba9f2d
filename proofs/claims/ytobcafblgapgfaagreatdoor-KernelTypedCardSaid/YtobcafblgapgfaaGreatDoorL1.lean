/- Part of the proof of KernelTyped: layer. -/
import Derived.Orders
import Derived.Below
import Derived.Laws.AppendOwn
import Derived.Laws.Cells
import Derived.Laws.CopyRow
import Derived.Laws.Small
import Derived.Laws.Pointers
import Derived.WalkSpells
import Derived.Test.YtobcafblgapgfaaGreatDoorB1
set_option linter.all false
namespace Go.m7
open Go
inductive Tag where
 |iP|full|loc (k g:Nat)
inductive AV where
 |undef|sc (v:Value)|np (x:AV)|eC (b g off:Nat)|fO (o off:Nat)|slice (tag:Tag) (l:List AV)|agg (cs:List AV)|tuple (vs:List AV)|func (fn:Fn) (first cap:List AV)
 |iface (t:TypeId) (x:AV)|wM (b g len cap:Nat)|mh (o:Nat)|tZ (ks:List Value) (xs:List AV)|ns (o since:Nat) (seen:List Nat)|zz (o off len cap:Nat)
instance:Inhabited AV:=⟨.undef⟩
def AV.cells:AV->List AV
 |.agg cs=>cs|x=>[x]
def AV.hZ:AV->Bool
 |.agg _=>false|.tuple _=>false|.tZ _ _=>false|.ns _ _ _=>false|_=>true
def Az:Value->Bool
 |.bool _=>true|.int _ _=>true|.float _ _=>true|.string _=>true|.pointer none=>true|.map none=>true|.nilFunc=>true|.nilIface=>true|_=>false
inductive iA {α β:Type} (R:α->β->Prop):List α->List β->Prop
 |nil:iA R [] []|cons {a b as bs}:R a b->iA R as bs->iA R (a::as) (b::bs)
def iA.length{α β:Type}{R:α->β->Prop}{as:List α}{bs:List β}(h:iA R as bs):as.length=bs.length:=by
 induction h with
 |nil=>rfl|cons _ _ a=>simp[a]
theorem iA.mono{α β:Type}{R S:α->β->Prop}{as:List α}{bs:List β}(h:iA R as bs)(hs:∀a b,a∈as->R a b->S a b):iA S as bs:=by
 induction h with
 |nil=>exact .nil|cons c _ d=>exact .cons (hs _ _ (by simp) c) (d λa b e=>hs a b (by simp[e]))
def iA.append{α β:Type}{R:α->β->Prop}{as a:List α}{bs b:List β}(h:iA R as bs)(c:iA R a b):iA R (as++a) (bs++b):=by
 induction h with
 |nil=>exact c|cons d _ e=>exact .cons d e
def iA.take{α β:Type}{R:α->β->Prop}{as:List α}{bs:List β}(h:iA R as bs)(n:Nat):iA R (as.take n) (bs.take n):=by
 induction h generalizing n with
 |nil=>simp;exact .nil|cons a _ b=>cases n with
  |zero=>exact .nil|succ n=>exact .cons a (b n)
def iA.drop{α β:Type}{R:α->β->Prop}{as:List α}{bs:List β}(h:iA R as bs)(n:Nat):iA R (as.drop n) (bs.drop n):=by
 induction h generalizing n with
 |nil=>simp;exact .nil|cons a b c=>cases n with
  |zero=>exact .cons a b|succ n=>exact c n
def iA.get{α β:Type}{R:α->β->Prop}{as:List α}{bs:List β}(h:iA R as bs){i:Nat}{a:α}(c:as[i]?=some a):∃b,bs[i]?=some b/\R a b:=by
 induction h generalizing i with
 |nil=>simp at c
 |cons d _ e=>cases i with
  |zero=>simp at c;subst c;exact⟨_,rfl,d⟩
  |succ i=>simp at c;simpa using e c
def iA.mem{α β:Type}{R:α->β->Prop}{as:List α}{bs:List β}(h:iA R as bs){b:β}(hb:b∈bs):∃a∈as,R a b:=by
 induction h with
 |nil=>simp at hb
 |cons c _ d=>
  rcases ma.1 hb with rfl|hb
  ·exact⟨_,by simp,c⟩
  ·obtain⟨a,e,f⟩:=d hb;exact⟨a,by simp[e],f⟩
def iA.xm{α α' β:Type}{R:α->β->Prop}{S:α'->β->Prop}{as:List α}{bs:List β}(f:α->α')(h:iA R as bs)(hs:∀a b,a∈as->R a b->S (f a) b):iA S (as.map f) bs:=by
 induction h with
 |nil=>exact .nil|cons c _ d=>exact .cons (hs _ _ (by simp) c) (d λa b e=>hs a b (by simp[e]))
abbrev lF:=Nat->Nat->Option Value
def lF.has(F:lF)(b o:Nat)(vs:List Value):Prop:=∀i v,vs[i]?=some v->F b (o+i)=some v
mutual
inductive ib (F:lF) (G:Nat->Nat) (n:Nat):AV->Value->Prop
 |undef {v}:v.oneCell'=true->ib F G n .undef v|sc {v}:Az v=true->ib F G n (.sc v) v|np {x b o vs}:hU F G n x.cells vs->F.has b o vs->(∀c∈x.cells,c.hZ=true)->ib F G n (.np x) (.pointer (some ⟨b,o,none⟩))|fO {o off}:o<n->ib F G n (.fO o off) (.pointer (some ⟨G o,off,none⟩))|mh {o}:o<n->ib F G n (.mh o) (.map (some (G o)))|zz {o off len cap}:o<n->len<=cap->cap<=maxLen->ib F G n (.zz o off len cap) (.slice (some ⟨G o,off,none⟩) len cap)|slice {tag l vs b o base cap sz}:hU F G n (l.flatMap AV.cells) vs->F.has b o vs->(l≠[]->base=some ⟨b,o,none⟩)->(∀x∈l,x.cells.length=sz)->(∀c∈l.flatMap AV.cells,c.hZ=true)->l.length<=cap->cap<=maxLen->tag=.iP\/tag=.full/\cap=l.length->ib F G n (.slice tag l) (.slice base l.length cap)|agg {cs vs}:hU F G n cs vs->(∀c∈cs,c.hZ=true)->ib F G n (.agg cs) (.agg vs.toArray)|tuple {cs vs}:hU F G n cs vs->ib F G n (.tuple cs) (.tuple vs.toArray)|func {fn f c vf vc}:hU F G n f vf->hU F G n c vc->ib F G n (.func fn f c) (.func fn vf.toArray vc.toArray)|iface {t x v}:ib F G n x v->ib F G n (.iface t x) (.iface t v)
inductive hU (F:lF) (G:Nat->Nat) (n:Nat):List AV->List Value->Prop
 |nil:hU F G n [] []|cons {x v xs vs}:ib F G n x v->hU F G n xs vs->hU F G n (x::xs) (v::vs)
end
section
variable{F F':lF} {G G':Nat->Nat} {n n':Nat}
def hU.uM{xs vs}(h:hU F G n xs vs):iA (ib F G n) xs vs:=by
 induction xs generalizing vs with
 |nil=>cases h;exact .nil
 |cons x xs a=>cases h with|cons b c=>exact .cons b (a c)
def hU.pS{xs vs}(h:iA (ib F G n) xs vs):hU F G n xs vs:=by
 induction h with
 |nil=>exact .nil|cons a _ b=>exact .cons a b
structure DZ (F F':lF) (G G':Nat->Nat) (n n':Nat):Prop where
 mF:∀b o v,F b o=some v->F' b o=some v
 mn:n<=n'
 mG:∀o,o<n->G' o=G o
def DZ.refl:DZ F F G G n n:=⟨λ_ _ _ h=>h,jo _,λ_ _=>rfl⟩
def lF.has.grow{b o vs}(h:F.has b o vs)(hg:DZ F F' G G' n n'):F'.has b o vs:=λi v a=>hg.mF _ _ _ (h i v a)
mutual
def ib.grow(hg:DZ F F' G G' n n'):∀{x v},ib F G n x v->ib F' G' n' x v
 |_,_,.undef h=>.undef h|_,_,.sc h=>.sc h|_,_,.np a b c=>.np (a.grow hg) (b.grow hg) c|_,_,.fO (o:=o) (off:=off) h=>by
  rw[<-hg.mG o h];exact .fO (Qs h hg.mn)
 |_,_,.mh (o:=o) h=>by
  rw[<-hg.mG o h];exact .mh (Qs h hg.mn)
 |_,_,.zz (o:=o) h b c=>by
  rw[<-hg.mG o h];exact .zz (Qs h hg.mn) b c
 |_,_,.slice a b c d e f g i=>.slice (a.grow hg) (b.grow hg) c d e f g i|_,_,.agg a b=>.agg (a.grow hg) b|_,_,.tuple a=>.tuple (a.grow hg)|_,_,.func a b=>.func (a.grow hg) (b.grow hg)|_,_,.iface a=>.iface (a.grow hg)
def hU.grow(hg:DZ F F' G G' n n'):∀{xs vs},hU F G n xs vs->hU F' G' n' xs vs
 |_,_,.nil=>.nil|_,_,.cons a b=>.cons (a.grow hg) (b.grow hg)
end
def ib.Kr{x v}(h:ib F G n x v)(a:x.hZ=true):v.oneCell'=true:=by
 cases h with
 |undef h=>exact h|sc h=>revert h;cases v<;>simp[Az,Value.oneCell']
 |agg b c=>simp[AV.hZ] at a
 |tuple b=>simp[AV.hZ] at a
 |_=>rfl
theorem ib.cells{x v}(h:ib F G n x v)(d:∀vs,x≠ .tuple vs):hU F G n x.cells v.cells.toList:=by
 cases h with
 |undef h=>cases v<;>first|exact .cons (.undef h) .nil|(simp[Value.oneCell'] at h;done)
 |sc h=>cases v<;>first|exact .cons (.sc h) .nil|(simp[Az] at h;done)
 |np a b c=>exact .cons (.np a b c) .nil|fO a=>exact .cons (.fO a) .nil|mh a=>exact .cons (.mh a) .nil|zz a b c=>exact .cons (.zz a b c) .nil|slice a b c e f g i j=>exact .cons (.slice a b c e f g i j) .nil|agg a b=>exact a|tuple a=>exact absurd rfl (d _)|func a b=>exact .cons (.func a b) .nil|iface a=>exact .cons (.iface a) .nil
end
structure Maps where
 G:Nat->Nat
 n:Nat
 L:Nat->Nat->Nat
 lg:Nat->Nat
 A:Nat->Nat->Option (Nat×Nat×Nat)
 ag:Nat->Nat
def tg(ρ:Maps)(k g:Nat)(l:List AV)(base:Option Addr)(cap:Nat):Prop:=
 match ρ.A k g with
 |none=>cap=l.length|some (b,c,sz)=>base=some ⟨b,0,none⟩/\cap=c/\∀x∈l,x.cells.length=sz
inductive j8 (F:lF) (ρ:Maps):AV->Value->Prop
 |p {x v}:ib F ρ.G ρ.n x v->j8 F ρ x v|eC {b g off}:g<=ρ.lg b->j8 F ρ (.eC b g off) (.pointer (some ⟨ρ.L b g,off,none⟩))|loc {k g l base cap}:ib F ρ.G ρ.n (.slice .iP l) (.slice base l.length cap)->g<=ρ.ag k->tg ρ k g l base cap->j8 F ρ (.slice (.loc k g) l) (.slice base l.length cap)|wM {b g len cap}:g<=ρ.lg b->len<=cap->cap<=maxLen->j8 F ρ (.wM b g len cap) (.slice (some ⟨ρ.L b g,0,none⟩) len cap)
inductive hO (F:lF) (ρ:Maps):AV->Value->Prop
 |cell {x v}:j8 F ρ x v->hO F ρ x v|agg {cs vs}:iA (j8 F ρ) cs vs->(∀c∈cs,c.hZ=true)->hO F ρ (.agg cs) (.agg vs.toArray)
structure ur (F F':lF) (ρ ρ':Maps):Prop where
 g:DZ F F' ρ.G ρ'.G ρ.n ρ'.n
 lg:∀b,ρ.lg b<=ρ'.lg b
 L:∀b g,g<=ρ.lg b->ρ'.L b g=ρ.L b g
 ag:∀k,ρ.ag k<=ρ'.ag k
 A:∀k g,g<=ρ.ag k->ρ'.A k g=ρ.A k g
section
variable{F F':lF} {ρ ρ':Maps}
def j8.grow(hg:ur F F' ρ ρ'){x v}(h:j8 F ρ x v):j8 F' ρ' x v:=by
 cases h with
 |p h=>exact .p (h.grow hg.g)|eC h=>
  rename_i b g off;rw[<-hg.L b g h];exact .eC (C7 h (hg.lg b))
 |loc d a c=>
  refine .loc (d.grow hg.g) (C7 a (hg.ag _)) ?_;unfold tg;rw[hg.A _ _ a];exact c
 |wM h a c=>
  rename_i b g len cap;rw[<-hg.L b g h];exact .wM (C7 h (hg.lg b)) a c
def hO.grow(hg:ur F F' ρ ρ'){x v}(h:hO F ρ x v):hO F' ρ' x v:=by
 cases h with
 |cell h=>exact .cell (h.grow hg)|agg a b=>exact .agg (a.mono λ_ _ _ h=>h.grow hg) b
def hO.p{x v}(h:ib F ρ.G ρ.n x v):hO F ρ x v:=.cell (.p h)
end
def AV.lz:AV->AV
 |.slice _ l=>.slice .iP l|.eC _ _ _=>.undef|.wM _ _ _ _=>.undef|x=>x
def AV.norm:AV->AV
 |.agg cs=>.agg (cs.map AV.lz)|x=>x.lz
section
variable{F F':lF} {ρ ρ':Maps}
def ib.iP{G:Nat->Nat}{n:Nat}{tag l v}(h:ib F G n (.slice tag l) v):ib F G n (.slice .iP l) v:=by
 cases h with
 |slice a b c d e f g i=>exact .slice a b c d e f g (.inl rfl)
def ib.lz{G:Nat->Nat}{n:Nat}{x v}(h:ib F G n x v):ib F G n x.lz v:=by
 cases x with
 |slice tag l=>exact h.iP|eC b g off=>cases h
 |wM b g len cap=>cases h
 |_=>exact h
def j8.lz{x v}(h:j8 F ρ x v):ib F ρ.G ρ.n x.lz v:=by
 cases h with
 |p h=>exact h.lz|eC h=>exact .undef rfl|loc a b c=>exact a|wM a b c=>exact .undef rfl
theorem AV.Ey(x:AV):x.lz.hZ=x.hZ:=by cases x<;>rfl
def hO.norm{x v}(h:hO F ρ x v):ib F ρ.G ρ.n x.norm v:=by
 have d:∀{cs:List AV} {vs:List Value},iA (j8 F ρ) cs vs->(∀c∈cs,c.hZ=true)->ib F ρ.G ρ.n (AV.agg cs).norm (.agg vs.toArray):=by
  intro cs vs e f;refine .agg (hU.pS (e.xm AV.lz λa b _ h=>h.lz)) ?_;intro c g;obtain⟨a,i,rfl⟩:=oy.1 g;rw[AV.Ey];exact f a i
 cases h with
 |agg e f=>exact d e f|cell h=>
  cases x with
  |agg cs=>
   cases h with
   |p h=>
    cases h with
    |agg e f=>exact d (e.uM.mono λ_ _ _ h=>.p h) f
  |_=>exact h.lz
theorem hO.cells{x v}(h:hO F ρ x v)(d:∀vs,x≠ .tuple vs):iA (j8 F ρ) x.cells v.cells.toList:=by
 cases h with
 |agg a b=>exact a|cell h=>
  cases h with
  |p h=>exact(h.cells d).uM.mono λ_ _ _ h=>.p h|eC h=>exact .cons (.eC h) .nil|loc a b c=>exact .cons (.loc a b c) .nil|wM a b c=>exact .cons (.wM a b c) .nil
def j8.Kr{x v}(h:j8 F ρ x v)(a:x.hZ=true):v.oneCell'=true:=by
 cases h with
 |p h=>exact h.Kr a|eC h=>rfl|loc b c d=>rfl|wM b c d=>rfl
def hO.wN{x v}(h:hO F ρ x v)(d:∀vs,x≠ .tuple vs):∀c∈x.cells,c.hZ=true:=by
 cases h with
 |agg b a=>exact a|cell h=>
  cases h with
  |p h=>
   cases h with
   |agg b a=>exact a|tuple b=>exact absurd rfl (d _)|_=>simp[AV.cells,AV.hZ]
  |eC h=>simp[AV.cells,AV.hZ]|loc b a e=>simp[AV.cells,AV.hZ]|wM b a e=>simp[AV.cells,AV.hZ]
end
end Go.m7
namespace Go.m7
open Go
abbrev eD:=List (List AV)
abbrev fa:=Nat->Option AV
structure Fr where
 env:Nat->AV
 box:Nat->Option (List AV)
 gen:Nat->Nat
 tM:Nat->Option Nat
 fN:Nat->Nat
def hS{α:Type}(f:Nat->α)(i:Nat)(x:α):Nat->α:=λj=>if j=i then x else f j
def Fr.put(fr:Fr)(d:Option Nat)(x:AV):Fr:=
 match d with
 |some d=>{fr with env:=hS fr.env d x}|none=>fr
section
variable(P:Program)
def gy(t:TypeId):Option (Bool×Nat):=
 match P.underlying t,P.info? t with
 |some d,some i=>some (match d with|.struct _|.array _ _=>true|_=>false,i.size)
 |_,_=>none
def zeroOf(t:TypeId):Option Value:=(P.info? t).bind (·.zero)
def fE(t i:Nat):Option (Nat×TypeId):=
 match P.underlying t with
 |some (.struct fs)=>(fs[i]?).map λf=>(f.offset,f.type)|_=>none
def Mh(t:TypeId):Option (Nat×TypeId):=
 match P.underlying t with
 |some (.array n e)=>some (n,e)|_=>none
def m8(t:TypeId)(cs:List AV)(off:Nat):Option AV:=
 match gy P t with
 |some (true,n)=>if off+n<=cs.length then some (.agg ((cs.drop off).take n))else none|some (false,_)=>cs[off]?|none=>none
def sy(t:TypeId)(x:AV):Bool:=
 match gy P t,x with
 |some (true,n),.agg cs=>cs.length==n|some (false,_),.agg _=>false|some (false,_),.tuple _=>false|some (false,_),.tZ _ _=>false|some (false,_),.ns _ _ _=>false|some (false,_),_=>true|_,_=>false
end
def setCells(cs:List AV)(off:Nat)(new:List AV):List AV:=cs.take off++new++cs.drop (off+new.length)
def qX:Value->AV
 |.slice none 0 0=>.slice .full []|.func fn f c=>if f.size=0/\c.size=0 then .func fn [] [] else .undef|.agg _=>.undef|.tuple _=>.undef|v=>if Az v then .sc v else .undef
def ofValue:Value->AV
 |.agg cs=>.agg (cs.toList.map qX)|.tuple cs=>.tuple (cs.toList.map qX)|v=>qX v
def As:Value->Bool
 |.agg cs=>cs.all (·.oneCell')|.tuple cs=>cs.all (·.oneCell')|_=>true
def yw(v:Value):(qX v).hZ=true:=by
 unfold qX
 split<;>first|rfl|(split<;>rfl)
def ES(F:lF)(G:Nat->Nat)(n:Nat)(v:Value)(h:v.oneCell'=true):ib F G n (qX v) v:=by
 unfold qX
 split
 ·exact .slice (l:=[]) (vs:=[]) (b:=0) (o:=0) (sz:=0) .nil (λ_ _ h=>by simp at h) (by simp) (by simp) (by simp) (by simp) (by simp[maxLen]) (.inr ⟨rfl,rfl⟩)
 ·rename_i fn f c
  split
  ·rename_i hs;obtain⟨a,d⟩:=hs;have e:f=#[]:=TA a;have g:c=#[]:=TA d;subst e;subst g;exact .func (vf:=[]) (vc:=[]) .nil .nil
  ·exact .undef rfl
 ·simp[Value.oneCell'] at h
 ·simp[Value.oneCell'] at h
 ·split
  ·exact .sc (by assumption)
  ·exact .undef h
def ri(F:lF)(G:Nat->Nat)(n:Nat):∀(vs:List Value),(∀v∈vs,v.oneCell'=true)->hU F G n (vs.map qX) vs
 |[],_=>.nil|v::vs,h=>.cons (ES F G n v (h v (by simp))) (ri F G n vs λu hu=>h u (by simp[hu]))
def ED{v:Value}(h:v.oneCell'=true):ofValue v=qX v:=by
 cases v<;>first|rfl|(simp[Value.oneCell'] at h)
def Cw(F:lF)(G:Nat->Nat)(n:Nat)(v:Value)(h:As v=true):ib F G n (ofValue v) v:=by
 cases v with
 |agg cs=>
  have b:∀v∈cs.toList,v.oneCell'=true:=λv d=>by
   have e:cs.all (·.oneCell')=true:=h
   exact IS.1 e v (yh.1 d)
  exact .agg (vs:=cs.toList) (ri F G n cs.toList b) (by
   intro c f;obtain⟨a,_,rfl⟩:=oy.1 f
   exact yw a)
 |tuple cs=>
  have b:∀v∈cs.toList,v.oneCell'=true:=λv d=>by
   have e:cs.all (·.oneCell')=true:=h
   exact IS.1 e v (yh.1 d)
  exact .tuple (vs:=cs.toList) (ri F G n cs.toList b)
 |_=>(rw[ED rfl];exact ES F G n _ rfl)
section
variable(T:fa) (fr:Fr)
def ev:Operand->AV
 |.tmp t=>fr.env t|.const v=>ofValue v|.global g=>match T g with|some x=>.np x|none=>.undef
 |.func f=>.func (.func f) [] []
def jY:Operand->Bool
 |.const v=>As v|_=>true
end
def s8(F:lF)(ρ:Maps)(fr:Fr)(a:Act):Prop:=∀t,hO F ρ (fr.env t) (a.tmps.getD t undef)
def yg(T:fa)(F:lF)(ρ:Maps):Prop:=∀g x,T g=some x->ib F ρ.G ρ.n (.np x) (.pointer (some ⟨g,0,none⟩))
def hW{T:fa}{fr:Fr}{F:lF}{ρ:Maps}{a:Act}(he:s8 F ρ fr a)(b:yg T F ρ)(x:Operand)(c:jY x=true):hO F ρ (ev T fr x) (a.eval x):=by
 cases x with
 |tmp t=>exact he t|const v=>exact .p (Cw _ _ _ v c)|global g=>
  show hO F ρ (match T g with|some x=>.np x|none=>.undef) _;cases h:T g with
  |none=>exact .p (.undef rfl)|some x=>exact .p (b g x h)
 |func f=>exact .p (.func (vf:=[]) (vc:=[]) .nil .nil)
def qT(op:BinOp)(k:IntKind)(a b:Int):Option Value:=
 match op with
 |.add=>some (.int k (k.wrap (a+b)))|.sub=>some (.int k (k.wrap (a-b)))|.mul=>some (.int k (k.wrap (a*b)))|.quo=>if b=0 then none else some (.int k (k.wrap (a.tdiv b)))|.rem=>if b=0 then none else some (.int k (a.tmod b))|.and=>some (.int k (k.wrap (BitVec.ofInt k.bits a&&&BitVec.ofInt k.bits b).toNat))|.or=>some (.int k (k.wrap (BitVec.ofInt k.bits a|||BitVec.ofInt k.bits b).toNat))|.xor=>some (.int k (k.wrap (BitVec.ofInt k.bits a^^^BitVec.ofInt k.bits b).toNat))|.andNot=>some (.int k (k.wrap (BitVec.ofInt k.bits a&&&~~~BitVec.ofInt k.bits b).toNat))|.eql=>some (.bool (a==b))|.neq=>some (.bool (a !=b))|.lss=>some (.bool (a<b))|.leq=>some (.bool (a<=b))|.gtr=>some (.bool (a>b))|.geq=>some (.bool (a>=b))|_=>none
def Kn(op:BinOp)(x y:ByteArray):Option Value:=
 match op with
 |.add=>if((x.size+y.size:Nat):Int)>IntKind.i64.max then none else some (.string (x++y))|.eql=>some (.bool (x.toList==y.toList))|.neq=>some (.bool !(x.toList==y.toList))|.lss=>some (.bool (Op.bytesLess x.toList y.toList))|.leq=>some (.bool (Op.bytesLess x.toList y.toList||x.toList==y.toList))|.gtr=>some (.bool !(Op.bytesLess x.toList y.toList||x.toList==y.toList))|.geq=>some (.bool !(Op.bytesLess x.toList y.toList))|_=>none
def Cu:AV->Bool
 |.np _|.eC _ _ _|.fO _ _=>true|_=>false
def sq(P:Program)(op:BinOp)(t:TypeId)(x y:AV):Option AV:=
 match op,x,y with
 |.shl,.sc (.int k a),.sc (.int _ b)=>if b<0 then none else some (.sc (.int k (k.wrap (a*2^min b.toNat k.bits))))|.shr,.sc (.int k a),.sc (.int _ b)=>if b<0 then none else some (.sc (.int k (a.fdiv (2^min b.toNat k.bits))))|op,.sc (.int k a),.sc (.int k' b)=>if k=k' then(qT op k a b).map .sc else none|op,.sc (.string a),.sc (.string b)=>(Kn op a b).map .sc|.eql,.sc (.bool a),.sc (.bool b)=>match P.underlying t with|some .bool=>some (.sc (.bool (a==b)))|_=>none
 |.neq,.sc (.bool a),.sc (.bool b)=>match P.underlying t with|some .bool=>some (.sc (.bool (!(a==b))))|_=>none
 |.eql,x,.sc (.pointer none)=>match P.underlying t with
  |some (.pointer _)=>if Cu x then some (.sc (.bool false))else(match x with|.sc (.pointer none)=>some (.sc (.bool true))|_=>none)
  |_=>none
 |.neq,x,.sc (.pointer none)=>match P.underlying t with
  |some (.pointer _)=>if Cu x then some (.sc (.bool true))else(match x with|.sc (.pointer none)=>some (.sc (.bool false))|_=>none)
  |_=>none
 |.eql,.func _ _ _,.sc .nilFunc=>match P.underlying t with|some (.func ..)=>some (.sc (.bool false))|_=>none
 |.neq,.func _ _ _,.sc .nilFunc=>match P.underlying t with|some (.func ..)=>some (.sc (.bool true))|_=>none
 |.eql,.sc .nilFunc,.sc .nilFunc=>match P.underlying t with|some (.func ..)=>some (.sc (.bool true))|_=>none
 |.neq,.sc .nilFunc,.sc .nilFunc=>match P.underlying t with|some (.func ..)=>some (.sc (.bool false))|_=>none
 |_,_,_=>none
def Yd(op:UnOp)(x:AV):Option AV:=
 match op,x with
 |.neg,.sc (.int k n)=>some (.sc (.int k (k.wrap (0-n))))|.not,.sc (.bool b)=>some (.sc (.bool !b))|_,_=>none
def gK{F:lF}{ρ:Maps}{u v:Value}(h:hO F ρ (.sc u) v):v=u:=by
 cases h with
 |cell h=>cases h with|p h=>cases h;rfl
def Hk(P:Program)(w:World){op:BinOp}{k:IntKind}{a b:Int}{v:Value}(t:TypeId)(h:qT op k a b=some v):(binOp op t (.int k a) (.int k b)).run P w=.ok v w/\Az v=true:=by
 cases op<;>simp only[qT,s7,reduceCtorEq] at h<;>(try(split at h))<;>
  (first
   |(subst h;refine⟨?_,rfl⟩;simp[binOp,Op.intArith,Op.intBits,Op.intCmp,Op.intDiv, *])
   |(cases h;refine⟨?_,rfl⟩;simp[binOp,Op.intArith,Op.intBits,Op.intCmp,Op.intDiv, *])
   |cases h)
def GJ(P:Program)(w:World){op:BinOp}{a b:ByteArray}{v:Value}(t:TypeId)(h:Kn op a b=some v):(binOp op t (.string a) (.string b)).run P w=.ok v w/\Az v=true:=by
 cases op<;>simp only[Kn,s7,reduceCtorEq] at h<;>(try(split at h))<;>
  (first
   |(subst h;refine⟨?_,rfl⟩;simp[binOp,Op.stringOp, *])
   |(cases h;refine⟨?_,rfl⟩;simp_all [binOp,Op.stringOp])
   |cases h)
def D9{F:lF}{ρ:Maps}{x:AV}{v:Value}(b:Cu x=true)(h:hO F ρ x v):∃a,v=.pointer (some a):=by
 cases h with
 |agg c d=>simp[Cu] at b
 |cell h=>
  cases h with
  |eC h=>exact⟨_,rfl⟩|loc c d e=>simp[Cu] at b
  |wM c d e=>simp[Cu] at b
  |p h=>cases h<;>first|(simp[Cu] at b;done)|exact⟨_,rfl⟩
def yx{P:Program}{t e:TypeId}(h:P.underlying t=some (.pointer e)):P.underlying t=some (.pointer (P.pointee t)):=by
 simp[Program.pointee,h]
def Ab{F:lF}{ρ:Maps}{fn:Fn}{f c:List AV}{v:Value}(h:hO F ρ (.func fn f c) v):∃vf vc:List Value,v=.func fn vf.toArray vc.toArray/\iA (ib F ρ.G ρ.n) f vf/\iA (ib F ρ.G ρ.n) c vc:=by
 cases h with
 |cell h=>cases h with
  |p h=>cases h with|func a b=>exact⟨_,_,rfl,a.uM,b.uM⟩
def O2(P:Program)(w:World){t:TypeId}{ps rs:Array TypeId}{b:Bool}(hu:P.underlying t=some (.func ps rs b))(fn:Fn)(f c:Array Value):(binOp .eql t (.func fn f c) .nilFunc).run P w=.ok (.bool false) w/\(binOp .neq t (.func fn f c) .nilFunc).run P w=.ok (.bool true) w:=by
 have h:∀d,(Op.equalIn (d+1) t (.func fn f c) .nilFunc).run P w=.ok false w:=λd=>by simp[Op.equalIn,run_underlying hu]
 have a:binOp .eql t (.func fn f c) .nilFunc=(do pure (.bool (<-Op.equalIn (9999+1) t (.func fn f c) .nilFunc))):=rfl;have e:binOp .neq t (.func fn f c) .nilFunc=(do pure (.bool (!(<-Op.equalIn (9999+1) t (.func fn f c) .nilFunc)))):=rfl;rw[a,e,iu,iu,h 9999];exact⟨rfl,rfl⟩
def Po(P:Program)(w:World){t:TypeId}{ps rs:Array TypeId}{b:Bool}(hu:P.underlying t=some (.func ps rs b)):(binOp .eql t .nilFunc .nilFunc).run P w=.ok (.bool true) w/\(binOp .neq t .nilFunc .nilFunc).run P w=.ok (.bool false) w:=by
 have h:∀d,(Op.equalIn (d+1) t .nilFunc .nilFunc).run P w=.ok true w:=λd=>by simp[Op.equalIn,run_underlying hu]
 have a:binOp .eql t .nilFunc .nilFunc=(do pure (.bool (<-Op.equalIn (9999+1) t .nilFunc .nilFunc))):=rfl;have c:binOp .neq t .nilFunc .nilFunc=(do pure (.bool (!(<-Op.equalIn (9999+1) t .nilFunc .nilFunc)))):=rfl;rw[a,c,iu,iu,h 9999];exact⟨rfl,rfl⟩
def Kw:Value->Bool
 |.nilIface=>false|.agg _=>false|_=>true
def L6(P:Program)(w:World)(op:BinOp)(t:TypeId)(x y:Operand){u v:Value}(h:Kw u=true):(eqGuard op t x y u v).run P w=.ok () w:=by
 unfold eqGuard
 cases u<;>first|(simp[Kw] at h;done)|(cases op<;>rfl)
def PM(P:Program)(w:World){F:lF}{ρ:Maps}{op:BinOp}{t:TypeId}{x y r:AV}{u v:Value}(h:sq P op t x y=some r)
  (b:hO F ρ x u) (hy:hO F ρ y v):∃z,(binOp op t u v).run P w=.ok z w/\r=.sc z/\Az z=true/\Kw u=true:=by
 unfold sq at h
 split at h
 ·cases gK b;cases gK hy
  split at h
  ·cases h
  ·rename_i c;cases h;exact⟨_,by simp[binOp,Op.shift,c],rfl,rfl,rfl⟩
 ·cases gK b;cases gK hy
  split at h
  ·cases h
  ·rename_i c;cases h;exact⟨_,by simp[binOp,Op.shift,c],rfl,rfl,rfl⟩
 ·cases gK b;cases gK hy
  split at h
  ·rename_i e;subst e;cases hi:qT op _ _ _ with
   |none=>rw[hi] at h;cases h
   |some z=>
    rw[hi] at h;cases h;exact⟨z,(Hk P w t hi).1,rfl,(Hk P w t hi).2,rfl⟩
  ·cases h
 ·cases gK b;cases gK hy;cases hi:Kn op _ _ with
  |none=>rw[hi] at h;cases h
  |some z=>
   rw[hi] at h;cases h;exact⟨z,(GJ P w t hi).1,rfl,(GJ P w t hi).2,rfl⟩
 ·cases gK b;cases gK hy
  split at h
  ·rename_i hu;cases h;exact⟨_,run_eql_bool w t _ _ hu,rfl,rfl,rfl⟩
  ·cases h
 ·cases gK b;cases gK hy
  split at h
  ·rename_i hu;cases h;exact⟨_,run_neq_bool w t _ _ hu,rfl,rfl,rfl⟩
  ·cases h
 ·cases gK hy
  split at h
  ·rename_i hu
   split at h
   ·rename_i d;obtain⟨a,rfl⟩:=D9 d b;cases h;exact⟨_,run_eql_pointer_nil w t _ (yx hu),by simp,rfl,rfl⟩
   ·split at h
    ·cases gK b;cases h;exact⟨_,run_eql_pointer_nil w t _ (yx hu),by simp,rfl,rfl⟩
    ·cases h
  ·cases h
 ·cases gK hy
  split at h
  ·rename_i hu
   split at h
   ·rename_i d;obtain⟨a,rfl⟩:=D9 d b;cases h;exact⟨_,run_neq_pointer_nil w t _ (yx hu),by simp,rfl,rfl⟩
   ·split at h
    ·cases gK b;cases h;exact⟨_,run_neq_pointer_nil w t _ (yx hu),by simp,rfl,rfl⟩
    ·cases h
  ·cases h
 ·cases gK hy;obtain⟨vf,vc,rfl,_,_⟩:=Ab b
  split at h
  ·rename_i hu;cases h;exact⟨.bool false,(O2 P w hu _ _ _).1,rfl,rfl,rfl⟩
  ·cases h
 ·cases gK hy;obtain⟨vf,vc,rfl,_,_⟩:=Ab b
  split at h
  ·rename_i hu;cases h;exact⟨.bool true,(O2 P w hu _ _ _).2,rfl,rfl,rfl⟩
  ·cases h
 ·cases gK b;cases gK hy
  split at h
  ·rename_i hu;cases h;exact⟨.bool true,(Po P w hu).1,rfl,rfl,rfl⟩
  ·cases h
 ·cases gK b;cases gK hy
  split at h
  ·rename_i hu;cases h;exact⟨.bool false,(Po P w hu).2,rfl,rfl,rfl⟩
  ·cases h
 ·cases h
end Go.m7
namespace Go.m7
open Go
def rK{l:List AV}{sz:Nat}(h:∀x∈l,x.cells.length=sz):(l.flatMap AV.cells).length=l.length*sz:=by
 induction l with
 |nil=>simp|cons x l a=>grind
def CM{l:List AV}{sz:Nat}(h:∀x∈l,x.cells.length=sz)(n:Nat):(l.take n).flatMap AV.cells=(l.flatMap AV.cells).take (n*sz):=by
 induction l generalizing n with
 |nil=>simp|cons x l a=>
  cases n with
  |zero=>simp|succ n=>
   have b:=h x (by simp)
   rw[List.take_succ_cons,Bo,Bo,a (λy hy=>h y (by simp[hy])),AD,SJ,List.take_append,b,V7 (l:=x.cells) (by omega),Uw]
def yz{l:List AV}{sz:Nat}(h:∀x∈l,x.cells.length=sz)(n:Nat):(l.drop n).flatMap AV.cells=(l.flatMap AV.cells).drop (n*sz):=by
 induction l generalizing n with
 |nil=>simp|cons x l a=>
  cases n with
  |zero=>simp|succ n=>
   have b:=h x (by simp)
   rw[List.drop_succ_cons,Bo,a (λy hy=>h y (by simp[hy])),AD,SJ,TN,b,IM (as:=x.cells) (by omega),Uw,o_]
def Ml{l:List AV}{sz:Nat}(h:∀x∈l,x.cells.length=sz){i:Nat}{x:AV}(hi:l[i]?=some x):((l.flatMap AV.cells).drop (i*sz)).take sz=x.cells:=by
 have b:=yz h i;have a:i<l.length:=(pz.1 hi).1
 have c:l.drop i=x::l.drop (i+1):=by
  have:=J1 a
  grind
 grind
def lF.has.drop{F:lF}{b o:Nat}{vs:List Value}(h:F.has b o vs)(n:Nat):F.has b (o+n) (vs.drop n):=by
 intro i v a;rw[WW] at a;have:=h _ v a
 grind
def lF.has.take{F:lF}{b o:Nat}{vs:List Value}(h:F.has b o vs)(n:Nat):F.has b o (vs.take n):=by
 intro i v a;rw[I2] at a
 split at a
 ·exact h i v a
 ·cases a
section
variable{F:lF} {G:Nat->Nat} {n:Nat}
def hU.drop{xs vs}(h:hU F G n xs vs)(k:Nat):hU F G n (xs.drop k) (vs.drop k):=.pS (h.uM.drop k)
def hU.take{xs vs}(h:hU F G n xs vs)(k:Nat):hU F G n (xs.take k) (vs.take k):=.pS (h.uM.take k)
def hU.get{xs vs}(h:hU F G n xs vs){i:Nat}{x:AV}(a:xs[i]?=some x):∃v,vs[i]?=some v/\ib F G n x v:=h.uM.get a
def hU.length{xs vs}(h:hU F G n xs vs):xs.length=vs.length:=h.uM.length
def hU.append{xs vs a vs'}(h:hU F G n xs vs)(b:hU F G n a vs'):hU F G n (xs++a) (vs++vs'):=.pS (h.uM.append b.uM)
end
def AV.Af{x:AV}(h:x.hZ=true):x.cells=[x]:=by cases x<;>first|rfl|(simp[AV.hZ] at h)
section
variable{P:Program}
def EM{t:TypeId}{b:Bool}{n:Nat}(h:gy P t=some (b,n)):∃d i,P.underlying t=some d/\P.info? t=some i/\i.size=n/\(match d with|.struct _|.array _ _=>true|_=>false)=b:=by grind[gy]
def k_{t:TypeId}{b:Bool}{n:Nat}(h:gy P t=some (b,n))(w:World):(sizeOf t).run P w=.ok n w:=by
 obtain⟨d,i,a,hi,hn,_⟩:=EM h;simp[sizeOf,typeInfo,hi,hn]
def ya{t:TypeId}{b:Bool}{n:Nat}(h:gy P t=some (b,n))(w:World):(isAgg t).run P w=.ok b w:=by
 obtain⟨d,i,a,hi,hn,c⟩:=EM h;subst c;unfold isAgg;rw[iu,run_underlying a];cases d<;>rfl
def zg{t:TypeId}{cs:List AV}{off:Nat}{z:AV}(h:m8 P t cs off=some z):(∃k,gy P t=some (true,k)/\off+k<=cs.length/\z=.agg ((cs.drop off).take k))\/(∃k,gy P t=some (false,k)/\cs[off]?=some z):=by grind[m8]
def yP{t:TypeId}{k:Nat}(h:gy P t=some (true,k))(w:World)(a:Addr)(vs:List Value)(b:vs.length=k)
  (c:∀j v,vs[j]?=some v->w.cell? (a.add j)=some v):(loadVar t a).run P w=.ok (.agg vs.toArray) w:=by
 unfold loadVar;rw[iu,ya h];simp only[kf,if_true];rw[iu,k_ h,kf,iu,<-b,run_loadCells_list w a vs c];rfl
def yH{t:TypeId}{k:Nat}(h:gy P t=some (false,k))(w:World)(a:Addr)(v:Value)(b:w.cell? a=some v):(loadVar t a).run P w=.ok v w:=by
 unfold loadVar;rw[iu,ya h]
 simp_all
end
def rI(P:Program)(t:TypeId)(x:AV)(i:Nat):Option AV:=
 match fE P t i with
 |none=>none|some (off,a)=>
  match gy P a with
  |none=>none|some (_,n)=>
   if n=0 then none else
   match x with
   |.eC b g o=>some (.eC b g (o+off))|.fO o f=>some (.fO o (f+off))|.np y=>(m8 P a y.cells off).map .np|_=>none
def Bb(P:Program)(t:TypeId)(x:AV)(i:Nat):Option AV:=
 match fE P t i,x with
 |some (off,a),.agg cs=>m8 P a cs off|_,_=>none
def gN(P:Program)(t:TypeId)(x i:AV):Option AV:=
 match i with
 |.sc (.int _ n)=>
  match P.underlying t,x with
  |some (.slice e),.slice _ l=>
   if 0<=n then
    match l[n.toNat]?,gy P e with
    |some y,some (_,sz)=>if y.cells.length=sz then some (.np y)else none|_,_=>none
   else none
  |some (.slice e),.wM b g len _=>
   match gy P e with
   |some (_,sz)=>if 0<=n/\n<len then some (.eC b g (n.toNat*sz))else none|none=>none
  |some (.slice e),.zz b off len _=>
   match gy P e with
   |some (_,sz)=>if 0<=n/\n<len then some (.fO b (off+n.toNat*sz))else none|none=>none
  |some (.array len e),.eC b g o=>
   match gy P e with
   |some (_,sz)=>if 0<=n/\n<len then some (.eC b g (o+n.toNat*sz))else none|none=>none
  |some (.array len e),.fO a o=>
   match gy P e with
   |some (_,sz)=>if 0<=n/\n<len then some (.fO a (o+n.toNat*sz))else none|none=>none
  |some (.array len e),.np y=>
   match gy P e with
   |some (_,sz)=>if 0<=n/\n<len then(m8 P e y.cells (n.toNat*sz)).map .np else none|none=>none
  |_,_=>none
 |_=>none
def OB(P:Program)(t:TypeId)(x i:AV):Option AV:=
 match i with
 |.sc (.int _ n)=>
  match P.underlying t,x with
  |some .string,.sc (.string s)=>if 0<=n then(s[n.toNat]?).map λb=>.sc (.int .u8 b.toNat)else none|some (.array len e),.agg cs=>
   match gy P e with
   |some (_,sz)=>if 0<=n/\n<len then m8 P e cs (n.toNat*sz)else none|none=>none
  |_,_=>none
 |_=>none
section
variable{P:Program} {F:lF} {ρ:Maps}
def Cz{cs:List AV}{v:Value}(h:hO F ρ (.agg cs) v):∃vs:List Value,v=.agg vs.toArray/\iA (j8 F ρ) cs vs/\∀c∈cs,c.hZ=true:=by
 cases h with
 |agg a b=>grind|cell h=>cases h with
  |p h=>cases h with|agg a b=>exact⟨_,rfl,a.uM.mono λ_ _ _ h=>.p h,b⟩
def NV{cs:List AV}{v:Value}(h:hO F ρ (.tuple cs) v):∃vs:List Value,v=.tuple vs.toArray/\iA (ib F ρ.G ρ.n) cs vs:=by
 cases h with
 |cell h=>cases h with
  |p h=>cases h with|tuple a=>exact⟨_,rfl,a.uM⟩
def xx{b g off:Nat}{v:Value}(h:hO F ρ (.eC b g off) v):v=.pointer (some ⟨ρ.L b g,off,none⟩)/\g<=ρ.lg b:=by
 cases h with
 |cell h=>cases h with
  |p h=>cases h
  |eC h=>grind
def uW{o off:Nat}{v:Value}(h:hO F ρ (.fO o off) v):v=.pointer (some ⟨ρ.G o,off,none⟩)/\o<ρ.n:=by
 cases h with
 |cell h=>cases h with
  |p h=>cases h with|fO h=>exact⟨rfl,h⟩
def Dl{x:AV}{v:Value}(h:hO F ρ (.np x) v):∃b o vs,v=.pointer (some ⟨b,o,none⟩)/\hU F ρ.G ρ.n x.cells vs/\F.has b o vs/\∀c∈x.cells,c.hZ=true:=by
 cases h with
 |cell h=>cases h with
  |p h=>cases h with|np a d e=>exact⟨_,_,_,rfl,a,d,e⟩
def zA{b g len cap:Nat}{v:Value}(h:hO F ρ (.wM b g len cap) v):v=.slice (some ⟨ρ.L b g,0,none⟩) len cap/\g<=ρ.lg b/\len<=cap/\cap<=maxLen:=by
 cases h with
 |cell h=>cases h with
  |p h=>cases h
  |wM a c d=>grind
def GV{o off len cap:Nat}{v:Value}(h:hO F ρ (.zz o off len cap) v):v=.slice (some ⟨ρ.G o,off,none⟩) len cap/\o<ρ.n/\len<=cap/\cap<=maxLen:=by
 cases h with
 |cell h=>cases h with
  |p h=>cases h with|zz a b c=>exact⟨rfl,a,b,c⟩
structure TB (F:lF) (ρ:Maps) (l:List AV) (base:Option Addr) (cap b o sz:Nat) (vs:List Value):Prop where
 cells:hU F ρ.G ρ.n (l.flatMap AV.cells) vs
 has:F.has b o vs
 base:l≠[]->base=some ⟨b,o,none⟩
 sz:∀x∈l,x.cells.length=sz
 wN:∀c∈l.flatMap AV.cells,c.hZ=true
 CV:l.length<=cap
 Dt:cap<=maxLen
def ib.JO{G:Nat->Nat}{n:Nat}{tag:Tag}{l:List AV}{v:Value}(h:ib F G n (.slice tag l) v):∃base cap b o sz vs,v=.slice base l.length cap/\hU F G n (l.flatMap AV.cells) vs/\F.has b o vs/\(l≠[]->base=some ⟨b,o,none⟩)/\(∀x∈l,x.cells.length=sz)/\(∀c∈l.flatMap AV.cells,c.hZ=true)/\l.length<=cap/\cap<=maxLen/\(tag=.iP\/tag=.full/\cap=l.length):=by
 cases h with|slice a d e f g i j k=>exact⟨_,_,_,_,_,_,rfl,a,d,e,f,g,i,j,k⟩
def p_{tag:Tag}{l:List AV}{v:Value}(h:hO F ρ (.slice tag l) v):∃base cap b o sz vs,v=.slice base l.length cap/\TB F ρ l base cap b o sz vs/\(tag=.full->cap=l.length)/\(∀k g,tag=.loc k g->g<=ρ.ag k/\tg ρ k g l base cap):=by
 cases h with
 |cell h=>cases h with
  |p h=>
   obtain⟨base,cap,b,o,sz,vs,rfl,a,m,n,c,d,e,f,q⟩:=h.JO;refine⟨base,cap,b,o,sz,vs,rfl,⟨a,m,n,c,d,e,f⟩,?_,?_⟩
   all_goals grind
  |loc a m n=>
   obtain⟨base,cap,b,o,sz,vs,he,a,i,j,c,d,e,f,q⟩:=a.JO;injection he with r t s;subst r;subst s;refine⟨_,_,b,o,sz,vs,rfl,⟨a,i,j,c,d,e,f⟩,(by intro h;cases h),?_⟩
   grind
def Jg{G:Nat->Nat}{n:Nat}{cs:List AV}{vs:List Value}{b o:Nat}{t:TypeId}{off:Nat}{z:AV}(e:hU F G n cs vs)(f:F.has b o vs)(g:∀c∈cs,c.hZ=true)
  (h:m8 P t cs off=some z):ib F G n (.np z) (.pointer (some ⟨b,o+off,none⟩)):=by
 rcases zg h with⟨k,j,hle,rfl⟩|⟨k,j,d⟩
 ·exact .np ((e.drop off).take k) ((f.drop off).take k) (λc d=>g c (HS (DL d)))
 ·obtain⟨v,l,m⟩:=e.get d;have a:=g z (Be d);refine .np (vs:=[v]) (by rw[AV.Af a];exact .cons m .nil) ?_ (by rw[AV.Af a];simpa using a);intro i u hu;cases i with
  |zero=>simp at hu;subst hu;exact f off _ l
  |succ i=>simp at hu
def Iu(w:World){t:TypeId}{x r:AV}{u:Value}{i:Nat}(h:rI P t x i=some r)(c:hO F ρ x u):∃v,(Instr.fieldAt t u i).run P w=.ok v w/\hO F ρ r v:=by
 unfold rI at h
 split at h
 ·cases h
 ·rename_i off j s
  split at h
  ·cases h
  ·rename_i agg n k
   split at h
   ·cases h
   ·rename_i hn
    have a:∃fs f,P.underlying t=some (.struct fs)/\fs[i]?=some f/\f.offset=off/\f.type=j:=by grind[fE]
    obtain⟨fs,f,hu,d,rfl,rfl⟩:=a
    have key:∀b o:Nat,(Instr.fieldAt t (.pointer (some ⟨b,o,none⟩)) i).run P w=.ok (.pointer (some ⟨b,o+f.offset,none⟩)) w:=by
     intro b o;unfold Instr.fieldAt;rw[iu,run_underlying hu,kf];simp only[d,Instr.sureAddr,iu,pE,kf,fieldPlace,k_ k,hn,P5,Addr.add_lit]
    split at h
    ·rename_i b g o;cases h;obtain⟨rfl,hg⟩:=xx c;exact⟨_,key _ _,.cell (.eC hg)⟩
    ·rename_i o A;cases h;obtain⟨rfl,hg⟩:=uW c;exact⟨_,key _ _,.p (.fO hg)⟩
    ·rename_i y;obtain⟨b,o,vs,rfl,l,m,q⟩:=Dl c;cases e:m8 P f.type y.cells f.offset with
     |none=>rw[e] at h;cases h
     |some z=>
      rw[e] at h;cases h;exact⟨_,key _ _,.p (Jg l m q e)⟩
    ·cases h
def C9(w:World){t:TypeId}{cs:List AV}{vs:List Value}{off:Nat}{z:AV}(d:iA (j8 F ρ) cs vs)(e:∀c∈cs,c.hZ=true)(f:m8 P t cs off=some z):∃v,(part t vs.toArray off).run P w=.ok v w/\hO F ρ z v:=by
 rcases zg f with⟨k,a,hle,rfl⟩|⟨k,a,b⟩
 ·refine⟨.agg ((vs.drop off).take k).toArray,?_,.agg ((d.drop off).take k) (λc b=>e c (HS (DL b)))⟩;unfold part;rw[iu,ya a];simp only[kf,if_true,iu,k_ a,pE]
  grind
 ·obtain⟨v,g,h⟩:=d.get b;refine⟨v,?_,.cell h⟩;unfold part;rw[iu,ya a];simp[g]
def QO(w:World){t:TypeId}{x r:AV}{u:Value}{i:Nat}(h:Bb P t x i=some r)(c:hO F ρ x u):∃v,(Instr.field t u i).run P w=.ok v w/\hO F ρ r v:=by
 unfold Bb at h
 split at h
 ·rename_i off d cs l;obtain⟨vs,rfl,e,g⟩:=Cz c
  have a:∃fs f,P.underlying t=some (.struct fs)/\fs[i]?=some f/\f.offset=off/\f.type=d:=by grind[fE]
  obtain⟨fs,f,hu,b,rfl,rfl⟩:=a;obtain⟨v,j,k⟩:=C9 w e g h;refine⟨v,?_,k⟩;unfold Instr.field;rw[iu,run_underlying hu];simp only[b,asAgg,iu,pE,kf,j]
 ·cases h
def HO(w:World){t:TypeId}{x i r:AV}{u j:Value}(h:gN P t x i=some r)(m:hO F ρ x u)(hi:hO F ρ i j):∃v,(Instr.indexAt t u j).run P w=.ok v w/\hO F ρ r v:=by
 unfold gN at h
 split at h
 ·rename_i k n;cases gK hi
  split at h
  ·rename_i e tag l hu
   split at h
   ·rename_i hn
    split at h
    ·rename_i y agg sz hy a
     split at h
     ·rename_i s;cases h;obtain⟨base,cap,b,o,d,vs,rfl,hs,_,_⟩:=p_ m;have A:n.toNat<l.length:=(pz.1 hy).1
      have B:l≠[]:=by rintro rfl;simp at A
      have f:=Be hy
      have q:d=sz:=by rw[<-hs.sz y f,s]
      subst q;rw[hs.base B];refine⟨.pointer (some ⟨b,o+n.toNat*d,none⟩),?_,.p (.np (vs:=(vs.drop (n.toNat*d)).take d) ?_ ?_ ?_)⟩
      ·unfold Instr.indexAt;simp only[asIntOf,iu,pE,kf,run_underlying hu];rw[ee ⟨hn,by omega⟩];simp only[iu,pE,kf,k_ a,Addr.add_lit]
      ·rw[<-Ml hs.sz hy];exact(hs.cells.drop _).take _
      ·exact(hs.has.drop _).take _
      ·intro c D;exact hs.wN c (P3.2 ⟨y,f,D⟩)
     ·cases h
    ·cases h
   ·cases h
  ·rename_i e b g len cap hu
   split at h
   ·rename_i agg sz a
    split at h
    ·rename_i hn;cases h;obtain⟨rfl,hg,_,_⟩:=zA m;refine⟨.pointer (some ⟨ρ.L b g,n.toNat*sz,none⟩),?_,.cell (.eC hg)⟩;unfold Instr.indexAt;simp only[asIntOf,iu,pE,kf,run_underlying hu];rw[ee ⟨hn.1,by omega⟩];simp only[iu,pE,kf,k_ a,Addr.add_lit,uK]
    ·cases h
   ·cases h
  ·rename_i e b off len cap hu
   split at h
   ·rename_i agg sz a
    split at h
    ·rename_i hn;cases h;obtain⟨rfl,hg,_,_⟩:=GV m;refine⟨.pointer (some ⟨ρ.G b,off+n.toNat*sz,none⟩),?_,.p (.fO hg)⟩;unfold Instr.indexAt;simp only[asIntOf,iu,pE,kf,run_underlying hu];rw[ee ⟨hn.1,by omega⟩];simp only[iu,pE,kf,k_ a,Addr.add_lit]
    ·cases h
   ·cases h
  ·rename_i len e b g o hu
   split at h
   ·rename_i agg sz a
    split at h
    ·rename_i hn;cases h;obtain⟨rfl,hg⟩:=xx m;refine⟨.pointer (some ⟨ρ.L b g,o+n.toNat*sz,none⟩),?_,.cell (.eC hg)⟩;unfold Instr.indexAt;simp only[asIntOf,Instr.sureAddr,iu,pE,kf,run_underlying hu];rw[ee hn];simp only[iu,pE,kf,k_ a,Addr.add_lit]
    ·cases h
   ·cases h
  ·rename_i len e E o hu
   split at h
   ·rename_i agg sz a
    split at h
    ·rename_i hn;cases h;obtain⟨rfl,hg⟩:=uW m;refine⟨.pointer (some ⟨ρ.G E,o+n.toNat*sz,none⟩),?_,.p (.fO hg)⟩;unfold Instr.indexAt;simp only[asIntOf,Instr.sureAddr,iu,pE,kf,run_underlying hu];rw[ee hn];simp only[iu,pE,kf,k_ a,Addr.add_lit]
    ·cases h
   ·cases h
  ·rename_i len e y hu
   split at h
   ·rename_i agg sz a
    split at h
    ·rename_i hn;obtain⟨b,o,vs,rfl,H,I,J⟩:=Dl m;cases C:m8 P e y.cells (n.toNat*sz)with
     |none=>rw[C] at h;cases h
     |some z=>
      rw[C] at h;cases h;refine⟨.pointer (some ⟨b,o+n.toNat*sz,none⟩),?_,.p (Jg H I J C)⟩;unfold Instr.indexAt;simp only[asIntOf,Instr.sureAddr,iu,pE,kf,run_underlying hu];rw[ee hn];simp only[iu,pE,kf,k_ a,Addr.add_lit]
    ·cases h
   ·cases h
  ·cases h
 ·cases h
def Qq(w:World){t:TypeId}{x i r:AV}{u j:Value}(h:OB P t x i=some r)(c:hO F ρ x u)(hi:hO F ρ i j):∃v,(Instr.index t u j).run P w=.ok v w/\hO F ρ r v:=by
 unfold OB at h
 split at h
 ·rename_i k n;cases gK hi
  split at h
  ·rename_i s hu;cases gK c
   split at h
   ·rename_i hn;cases a:s[n.toNat]?with
    |none=>rw[a] at h;cases h
    |some b=>
     rw[a] at h;cases h;refine⟨.int .u8 b.toNat,?_,.p (.sc rfl)⟩;unfold Instr.index;simp[asIntOf,run_underlying hu,hn,a]
   ·cases h
  ·rename_i len e cs hu
   split at h
   ·rename_i agg sz d
    split at h
    ·rename_i hn;obtain⟨vs,rfl,f,g⟩:=Cz c;obtain⟨v,l,m⟩:=C9 w f g h;refine⟨v,?_,m⟩;unfold Instr.index;simp only[asIntOf,iu,pE,kf,run_underlying hu];rw[ee hn];simp only[iu,k_ d,kf,l]
    ·cases h
   ·cases h
  ·cases h
 ·cases h
end
end Go.m7
