/- Part of the proof of SchemeLists: layer. -/
import Derived.Orders
import Derived.Below
import Derived.Laws.AppendOwn
import Derived.Laws.Cells
import Derived.Laws.CopyRow
import Derived.Laws.Small
import Derived.Laws.Pointers
import Derived.WalkSpells
import Derived.Test.YtpgdkkomegalnaaGreatDoorLL1
set_option linter.all false
namespace Go.kY
open Go
inductive Tag where
 |gI|full|loc (k g:Nat)
inductive AV where
 |undef|sc (v:Value)|mj (x:AV)|h9 (b g off:Nat)|fb (o off:Nat)|slice (tag:Tag) (l:List AV)|agg (cs:List AV)|tuple (vs:List AV)|func (fn:Fn) (first cap:List AV)
 |iface (t:TypeId) (x:AV)|xO (b g len cap:Nat)|nx (o:Nat)|uH (ks:List Value) (xs:List AV)|mw (o since:Nat) (seen:List Nat)|zF (o off len cap:Nat)|M9
instance:Inhabited AV:=⟨.undef⟩
def AV.cells:AV->List AV
 |.agg cs=>cs|x=>[x]
def AV.gL:AV->Bool
 |.agg _=>false|.tuple _=>false|.uH _ _=>false|.mw _ _ _=>false|_=>true
def y0:Value->Bool
 |.bool _=>true|.int _ _=>true|.float _ _=>true|.string _=>true|.pointer none=>true|.map none=>true|.nilFunc=>true|.nilIface=>true|_=>false
inductive hQ {α β:Type} (R:α->β->Prop):List α->List β->Prop
 |nil:hQ R [] []|cons {a b as bs}:R a b->hQ R as bs->hQ R (a::as) (b::bs)
def hQ.length{α β:Type}{R:α->β->Prop}{as:List α}{bs:List β}(h:hQ R as bs):as.length=bs.length:=by
 induction h with
 |nil=>rfl|cons _ _ ih=>simp[ih]
theorem hQ.mono{α β:Type}{R S:α->β->Prop}{as:List α}{bs:List β}(h:hQ R as bs)(hs:∀a b,a∈as->R a b->S a b):hQ S as bs:=by
 induction h with
 |nil=>exact .nil|cons c _ ih=>exact .cons (hs _ _ aa2 c) (ih λa b d=>hs a b (by simp[d]))
def hQ.append{α β:Type}{R:α->β->Prop}{as a:List α}{bs b:List β}(h:hQ R as bs)(c:hQ R a b):hQ R (as++a) (bs++b):=by
 induction h with
 |nil=>exact c|cons d _ ih=>exact .cons d ih
def hQ.take{α β:Type}{R:α->β->Prop}{as:List α}{bs:List β}(h:hQ R as bs)(n:Nat):hQ R (as.take n) (bs.take n):=by
 induction h generalizing n with
 |nil=>simp;exact .nil|cons a _ ih=>cases n with
  |zero=>exact .nil|succ n=>exact .cons a (ih n)
def hQ.drop{α β:Type}{R:α->β->Prop}{as:List α}{bs:List β}(h:hQ R as bs)(n:Nat):hQ R (as.drop n) (bs.drop n):=by
 induction h generalizing n with
 |nil=>simp;exact .nil|cons a b ih=>cases n with
  |zero=>exact .cons a b|succ n=>exact ih n
def hQ.get{α β:Type}{R:α->β->Prop}{as:List α}{bs:List β}(h:hQ R as bs){i:Nat}{a:α}(c:as[i]?=some a):∃b,bs[i]?=some b/\R a b:=by
 induction h generalizing i with
 |nil=>simp at c
 |cons d _ ih=>grind
def hQ.mem{α β:Type}{R:α->β->Prop}{as:List α}{bs:List β}(h:hQ R as bs){b:β}(c:b∈bs):∃a∈as,R a b:=by
 induction h with
 |nil=>simp at c
 |cons d _ ih=>grind
def hQ.wM{α α' β:Type}{R:α->β->Prop}{S:α'->β->Prop}{as:List α}{bs:List β}(f:α->α')(h:hQ R as bs)(hs:∀a b,a∈as->R a b->S (f a) b):hQ S (as.map f) bs:=by
 induction h with
 |nil=>exact .nil|cons c _ ih=>exact .cons (hs _ _ aa2 c) (ih λa b d=>hs a b (by simp[d]))
abbrev kM:=Nat->Nat->Option Value
def kM.has(F:kM)(b o:Nat)(vs:List Value):Prop:=∀i v,vs[i]?=some v->F b (o+i)=some v
mutual
inductive gQ (F:kM) (G:Nat->Nat) (n:Nat):AV->Value->Prop
 |undef {v}:v.oneCell'=true->gQ F G n .undef v|sc {v}:y0 v=true->gQ F G n (.sc v) v|mj {x b o vs}:hO F G n x.cells vs->F.has b o vs->(∀c∈x.cells,c.gL=true)->gQ F G n (.mj x) (.pointer (some ⟨b,o,none⟩))|fb {o off}:o<n->gQ F G n (.fb o off) (.pointer (some ⟨G o,off,none⟩))|nx {o}:o<n->gQ F G n (.nx o) (.map (some (G o)))|zF {o off len cap}:o<n->len<=cap->cap<=maxLen->gQ F G n (.zF o off len cap) (.slice (some ⟨G o,off,none⟩) len cap)|slice {tag l vs b o base cap sz}:hO F G n (l.flatMap AV.cells) vs->F.has b o vs->(l≠[]->base=some ⟨b,o,none⟩)->(∀x∈l,x.cells.length=sz)->(∀c∈l.flatMap AV.cells,c.gL=true)->l.length<=cap->cap<=maxLen->tag=.gI\/tag=.full/\cap=l.length->gQ F G n (.slice tag l) (.slice base l.length cap)|M9 {base}:gQ F G n .M9 (.slice base 0 0)|agg {cs vs}:hO F G n cs vs->(∀c∈cs,c.gL=true)->gQ F G n (.agg cs) (.agg vs.toArray)|tuple {cs vs}:hO F G n cs vs->gQ F G n (.tuple cs) (.tuple vs.toArray)|func {fn f c vf vc}:hO F G n f vf->hO F G n c vc->gQ F G n (.func fn f c) (.func fn vf.toArray vc.toArray)|iface {t x v}:gQ F G n x v->gQ F G n (.iface t x) (.iface t v)
inductive hO (F:kM) (G:Nat->Nat) (n:Nat):List AV->List Value->Prop
 |nil:hO F G n [] []|cons {x v xs vs}:gQ F G n x v->hO F G n xs vs->hO F G n (x::xs) (v::vs)
end
section
variable{F F':kM} {G G':Nat->Nat} {n n':Nat}
def hO.qw{xs vs}(h:hO F G n xs vs):hQ (gQ F G n) xs vs:=by
 induction xs generalizing vs with
 |nil=>cases h;exact .nil
 |cons x xs ih=>cases h with|cons a b=>exact .cons a (ih b)
def hO.oU{xs vs}(h:hQ (gQ F G n) xs vs):hO F G n xs vs:=by
 induction h with
 |nil=>exact .nil|cons a _ ih=>exact .cons a ih
structure Hh (F F':kM) (G G':Nat->Nat) (n n':Nat):Prop where
 mF:∀b o v,F b o=some v->F' b o=some v
 mn:n<=n'
 mG:∀o,o<n->G' o=G o
theorem Hh.refl:Hh F F G G n n:=⟨λ_ _ _ h=>h,gY _,λ_ _=>rfl⟩
def kM.has.grow{b o vs}(h:F.has b o vs)(hg:Hh F F' G G' n n'):F'.has b o vs:=λi v a=>hg.mF _ _ _ (h i v a)
mutual
def gQ.grow(hg:Hh F F' G G' n n'):∀{x v},gQ F G n x v->gQ F' G' n' x v
 |_,_,.undef h=>.undef h|_,_,.sc h=>.sc h|_,_,.mj a b c=>.mj (a.grow hg) (b.grow hg) c|_,_,.fb (o:=o) (off:=off) h=>by
  rw[<-hg.mG o h];exact .fb (T9 h hg.mn)
 |_,_,.nx (o:=o) h=>by
  rw[<-hg.mG o h];exact .nx (T9 h hg.mn)
 |_,_,.zF (o:=o) h b c=>by
  rw[<-hg.mG o h];exact .zF (T9 h hg.mn) b c
 |_,_,.slice a b c d f i j k=>.slice (a.grow hg) (b.grow hg) c d f i j k|_,_,.M9=>.M9|_,_,.agg a b=>.agg (a.grow hg) b|_,_,.tuple a=>.tuple (a.grow hg)|_,_,.func a b=>.func (a.grow hg) (b.grow hg)|_,_,.iface a=>.iface (a.grow hg)
def hO.grow(hg:Hh F F' G G' n n'):∀{xs vs},hO F G n xs vs->hO F' G' n' xs vs
 |_,_,.nil=>.nil|_,_,.cons a b=>.cons (a.grow hg) (b.grow hg)
end
def gQ.LX{x v}(h:gQ F G n x v)(b:x.gL=true):v.oneCell'=true:=by
 cases h with
 |undef h=>exact h|sc h=>revert h;cases v<;>simp[y0,Value.oneCell']
 |agg a c=>grind[AV.gL]|tuple a=>grind[AV.gL]|_=>rfl
theorem gQ.cells{x v}(h:gQ F G n x v)(l:∀vs,x≠ .tuple vs):hO F G n x.cells v.cells.toList:=by
 cases h with
 |undef h=>cases v<;>first|exact .cons (.undef h) .nil|(simp[Value.oneCell'] at h;done)
 |sc h=>cases v<;>first|exact .cons (.sc h) .nil|(simp[y0] at h;done)
 |mj a b c=>exact .cons (.mj a b c) .nil|fb a=>exact .cons (.fb a) .nil|nx a=>exact .cons (.nx a) .nil|zF a b c=>exact .cons (.zF a b c) .nil|slice a b c d f i j k=>exact .cons (.slice a b c d f i j k) .nil|M9=>exact .cons .M9 .nil|agg a b=>exact a|tuple a=>grind|func a b=>exact .cons (.func a b) .nil|iface a=>exact .cons (.iface a) .nil
end
structure Maps where
 G:Nat->Nat
 n:Nat
 L:Nat->Nat->Nat
 lg:Nat->Nat
 A:Nat->Nat->Option (Nat×Nat×Nat)
 ag:Nat->Nat
def uY(ρ:Maps)(k g:Nat)(l:List AV)(base:Option Addr)(cap:Nat):Prop:=
 match ρ.A k g with
 |none=>cap=l.length|some (b,c,sz)=>base=some ⟨b,0,none⟩/\cap=c/\∀x∈l,x.cells.length=sz
inductive jN (F:kM) (ρ:Maps):AV->Value->Prop
 |p {x v}:gQ F ρ.G ρ.n x v->jN F ρ x v|h9 {b g off}:g<=ρ.lg b->jN F ρ (.h9 b g off) (.pointer (some ⟨ρ.L b g,off,none⟩))|loc {k g l base cap}:gQ F ρ.G ρ.n (.slice .gI l) (.slice base l.length cap)->g<=ρ.ag k->uY ρ k g l base cap->jN F ρ (.slice (.loc k g) l) (.slice base l.length cap)|xO {b g len cap}:g<=ρ.lg b->len<=cap->cap<=maxLen->jN F ρ (.xO b g len cap) (.slice (some ⟨ρ.L b g,0,none⟩) len cap)
inductive gG (F:kM) (ρ:Maps):AV->Value->Prop
 |cell {x v}:jN F ρ x v->gG F ρ x v|agg {cs vs}:hQ (jN F ρ) cs vs->(∀c∈cs,c.gL=true)->gG F ρ (.agg cs) (.agg vs.toArray)
structure xu (F F':kM) (ρ ρ':Maps):Prop where
 g:Hh F F' ρ.G ρ'.G ρ.n ρ'.n
 lg:∀b,ρ.lg b<=ρ'.lg b
 L:∀b g,g<=ρ.lg b->ρ'.L b g=ρ.L b g
 ag:∀k,ρ.ag k<=ρ'.ag k
 A:∀k g,g<=ρ.ag k->ρ'.A k g=ρ.A k g
section
variable{F F':kM} {ρ ρ':Maps}
def jN.grow(hg:xu F F' ρ ρ'){x v}(h:jN F ρ x v):jN F' ρ' x v:=by
 cases h with
 |p h=>exact .p (h.grow hg.g)|h9 h=>
  rename_i b g off;rw[<-hg.L b g h];exact .h9 (AL h (hg.lg b))
 |loc d a c=>
  refine .loc (d.grow hg.g) (AL a (hg.ag _)) ?_;unfold uY;rw[hg.A _ _ a];exact c
 |xO h a c=>
  rename_i b g len cap;rw[<-hg.L b g h];exact .xO (AL h (hg.lg b)) a c
def gG.grow(hg:xu F F' ρ ρ'){x v}(h:gG F ρ x v):gG F' ρ' x v:=by
 cases h with
 |cell h=>exact .cell (h.grow hg)|agg a b=>exact .agg (a.mono λ_ _ _ h=>h.grow hg) b
def gG.p{x v}(h:gQ F ρ.G ρ.n x v):gG F ρ x v:=.cell (.p h)
end
def AV.kg:AV->AV
 |.slice _ l=>.slice .gI l|.h9 _ _ _=>.undef|.xO _ _ _ _=>.undef|x=>x
def AV.norm:AV->AV
 |.agg cs=>.agg (cs.map AV.kg)|x=>x.kg
section
variable{F F':kM} {ρ ρ':Maps}
def gQ.gI{G:Nat->Nat}{n:Nat}{tag l v}(h:gQ F G n (.slice tag l) v):gQ F G n (.slice .gI l) v:=by
 cases h with
 |slice a b c d f i j k=>exact .slice a b c d f i j (.inl rfl)
def gQ.kg{G:Nat->Nat}{n:Nat}{x v}(h:gQ F G n x v):gQ F G n x.kg v:=by
 cases x with
 |slice tag l=>exact h.gI|h9 b g off=>cases h
 |xO b g len cap=>cases h
 |_=>exact h
def jN.kg{x v}(h:jN F ρ x v):gQ F ρ.G ρ.n x.kg v:=by
 cases h with
 |p h=>exact h.kg|h9 h=>exact .undef rfl|loc a b c=>exact a|xO a b c=>exact .undef rfl
theorem AV.Gr(x:AV):x.kg.gL=x.gL:=by cases x<;>rfl
def gG.norm{x v}(h:gG F ρ x v):gQ F ρ.G ρ.n x.norm v:=by
 have d:∀{cs:List AV} {vs:List Value},hQ (jN F ρ) cs vs->(∀c∈cs,c.gL=true)->gQ F ρ.G ρ.n (AV.agg cs).norm (.agg vs.toArray):=by
  intro cs vs f i;refine .agg (hO.oU (f.wM AV.kg λa b _ h=>h.kg)) ?_
  grind[AV.Gr]
 cases h with
 |agg f i=>grind|cell h=>
  cases x with
  |agg cs=>
   cases h with
   |p h=>
    cases h with
    |agg f i=>exact d (f.qw.mono λ_ _ _ h=>.p h) i
  |_=>exact h.kg
theorem gG.cells{x v}(h:gG F ρ x v)(d:∀vs,x≠ .tuple vs):hQ (jN F ρ) x.cells v.cells.toList:=by
 cases h with
 |agg a b=>exact a|cell h=>
  cases h with
  |p h=>exact(h.cells d).qw.mono λ_ _ _ h=>.p h|h9 h=>exact .cons (.h9 h) .nil|loc a b c=>exact .cons (.loc a b c) .nil|xO a b c=>exact .cons (.xO a b c) .nil
def jN.LX{x v}(h:jN F ρ x v)(a:x.gL=true):v.oneCell'=true:=by
 cases h with
 |p h=>exact h.LX a|h9 h=>rfl|loc b c d=>rfl|xO b c d=>rfl
def gG.sy{x v}(h:gG F ρ x v)(f:∀vs,x≠ .tuple vs):∀c∈x.cells,c.gL=true:=by
 cases h with
 |agg b a=>exact a|cell h=>
  cases h with
  |p h=>
   cases h with
   |agg b a=>exact a|tuple b=>grind|_=>simp[AV.cells,AV.gL]
  |h9 h=>simp[AV.cells,AV.gL]|loc b a d=>simp[AV.cells,AV.gL]|xO b a d=>simp[AV.cells,AV.gL]
end
end Go.kY
namespace Go.kY
open Go
abbrev dY:=List (List AV)
abbrev eN:=Nat->Option AV
structure Fr where
 env:Nat->AV
 box:Nat->Option (List AV)
 gen:Nat->Nat
 qh:Nat->Option Nat
 fi:Nat->Nat
def gK{α:Type}(f:Nat->α)(i:Nat)(x:α):Nat->α:=λj=>if j=i then x else f j
def Fr.put(fr:Fr)(d:Option Nat)(x:AV):Fr:=
 match d with
 |some d=>{fr with env:=gK fr.env d x}|none=>fr
section
variable(P:Program)
def fY(t:TypeId):Option (Bool×Nat):=
 match P.underlying t,P.info? t with
 |some d,some i=>some (match d with|.struct _|.array _ _=>true|_=>false,i.size)
 |_,_=>none
def zeroOf(t:TypeId):Option Value:=(P.info? t).bind (·.zero)
def e_(t i:Nat):Option (Nat×TypeId):=
 match P.underlying t with
 |some (.struct fs)=>(fs[i]?).map λf=>(f.offset,f.type)|_=>none
def N7(t:TypeId):Option (Nat×TypeId):=
 match P.underlying t with
 |some (.array n e)=>some (n,e)|_=>none
def mq(t:TypeId)(cs:List AV)(off:Nat):Option AV:=
 match fY P t with
 |some (true,n)=>if off+n<=cs.length then some (.agg ((cs.drop off).take n))else none|some (false,_)=>cs[off]?|none=>none
def ux(t:TypeId)(x:AV):Bool:=
 match fY P t,x with
 |some (true,n),.agg cs=>cs.length==n|some (false,_),.agg _=>false|some (false,_),.tuple _=>false|some (false,_),.uH _ _=>false|some (false,_),.mw _ _ _=>false|some (false,_),_=>true|_,_=>false
end
def setCells(cs:List AV)(off:Nat)(new:List AV):List AV:=cs.take off++new++cs.drop (off+new.length)
def qs:Value->AV
 |.slice none 0 0=>.slice .full []|.func fn f c=>if f.size=0/\c.size=0 then .func fn [] [] else .undef|.agg _=>.undef|.tuple _=>.undef|v=>if y0 v then .sc v else .undef
def ofValue:Value->AV
 |.agg cs=>.agg (cs.toList.map qs)|.tuple cs=>.tuple (cs.toList.map qs)|v=>qs v
def zh:Value->Bool
 |.agg cs=>cs.all (·.oneCell')|.tuple cs=>cs.all (·.oneCell')|_=>true
def yY(v:Value):(qs v).gL=true:=by
 unfold qs
 split<;>first|rfl|(split<;>rfl)
def G5(F:kM)(G:Nat->Nat)(n:Nat)(v:Value)(h:v.oneCell'=true):gQ F G n (qs v) v:=by
 unfold qs
 split
 ·exact .slice (l:=[]) (vs:=[]) (b:=0) (o:=0) (sz:=0) .nil (λ_ _ h=>by simp at h) aa2 aa2 aa2 aa2 (by simp[maxLen]) (.inr ⟨rfl,rfl⟩)
 ·rename_i fn f c
  split
  ·rename_i hs;obtain⟨a,d⟩:=hs;have i:f=#[]:=afd a;have j:c=#[]:=afd d;subst i;subst j;exact .func (vf:=[]) (vc:=[]) .nil .nil
  ·exact .undef rfl
 ·simp[Value.oneCell'] at h
 ·simp[Value.oneCell'] at h
 ·split
  ·exact .sc (by assumption)
  ·exact .undef h
def qK(F:kM)(G:Nat->Nat)(n:Nat):∀(vs:List Value),(∀v∈vs,v.oneCell'=true)->hO F G n (vs.map qs) vs
 |[],_=>.nil|v::vs,h=>.cons (G5 F G n v (h v aa2)) (qK F G n vs λu hu=>h u (by simp[hu]))
def Gn{v:Value}(h:v.oneCell'=true):ofValue v=qs v:=by
 cases v<;>first|rfl|(simp[Value.oneCell'] at h)
def zx(F:kM)(G:Nat->Nat)(n:Nat)(v:Value)(h:zh v=true):gQ F G n (ofValue v) v:=by
 cases v with
 |agg cs=>
  have b:∀v∈cs.toList,v.oneCell'=true:=λv d=>by
   have f:cs.all (·.oneCell')=true:=h
   exact KE.1 f v (ye.1 d)
  exact .agg (vs:=cs.toList) (qK F G n cs.toList b) (by
   intro c i;obtain⟨a,_,rfl⟩:=qp.1 i
   exact yY a)
 |tuple cs=>
  have b:∀v∈cs.toList,v.oneCell'=true:=λv d=>by
   have f:cs.all (·.oneCell')=true:=h
   exact KE.1 f v (ye.1 d)
  exact .tuple (vs:=cs.toList) (qK F G n cs.toList b)
 |_=>(rw[Gn rfl];exact G5 F G n _ rfl)
section
variable(T:eN) (fr:Fr)
def ev:Operand->AV
 |.tmp t=>fr.env t|.const v=>ofValue v|.global g=>match T g with|some x=>.mj x|none=>.undef
 |.func f=>.func (.func f) [] []
def jg:Operand->Bool
 |.const v=>zh v|_=>true
end
def ti(F:kM)(ρ:Maps)(fr:Fr)(a:Act):Prop:=∀t,gG F ρ (fr.env t) (a.tmps.getD t undef)
def yC(T:eN)(F:kM)(ρ:Maps):Prop:=∀g x,T g=some x->gQ F ρ.G ρ.n (.mj x) (.pointer (some ⟨g,0,none⟩))
def gD{T:eN}{fr:Fr}{F:kM}{ρ:Maps}{a:Act}(he:ti F ρ fr a)(b:yC T F ρ)(x:Operand)(c:jg x=true):gG F ρ (ev T fr x) (a.eval x):=by
 cases x with
 |tmp t=>exact he t|const v=>exact .p (zx _ _ _ v c)|global g=>
  show gG F ρ (match T g with|some x=>.mj x|none=>.undef) _;cases h:T g with
  |none=>exact .p (.undef rfl)|some x=>exact .p (b g x h)
 |func f=>exact .p (.func (vf:=[]) (vc:=[]) .nil .nil)
def qt(op:BinOp)(k:IntKind)(a b:Int):Option Value:=
 match op with
 |.add=>some (.int k (k.wrap (a+b)))|.sub=>some (.int k (k.wrap (a-b)))|.mul=>some (.int k (k.wrap (a*b)))|.quo=>if b=0 then none else some (.int k (k.wrap (a.tdiv b)))|.rem=>if b=0 then none else some (.int k (a.tmod b))|.and=>some (.int k (k.wrap (BitVec.ofInt k.bits a&&&BitVec.ofInt k.bits b).toNat))|.or=>some (.int k (k.wrap (BitVec.ofInt k.bits a|||BitVec.ofInt k.bits b).toNat))|.xor=>some (.int k (k.wrap (BitVec.ofInt k.bits a^^^BitVec.ofInt k.bits b).toNat))|.andNot=>some (.int k (k.wrap (BitVec.ofInt k.bits a&&&~~~BitVec.ofInt k.bits b).toNat))|.eql=>some (.bool (a==b))|.neq=>some (.bool (a !=b))|.lss=>some (.bool (a<b))|.leq=>some (.bool (a<=b))|.gtr=>some (.bool (a>b))|.geq=>some (.bool (a>=b))|_=>none
def M3(op:BinOp)(x y:ByteArray):Option Value:=
 match op with
 |.add=>if((x.size+y.size:Nat):Int)>IntKind.i64.max then none else some (.string (x++y))|.eql=>some (.bool (x.toList==y.toList))|.neq=>some (.bool !(x.toList==y.toList))|.lss=>some (.bool (Op.bytesLess x.toList y.toList))|.leq=>some (.bool (Op.bytesLess x.toList y.toList||x.toList==y.toList))|.gtr=>some (.bool !(Op.bytesLess x.toList y.toList||x.toList==y.toList))|.geq=>some (.bool !(Op.bytesLess x.toList y.toList))|_=>none
def DY:AV->Bool
 |.mj _|.h9 _ _ _|.fb _ _=>true|_=>false
def uB(P:Program)(op:BinOp)(t:TypeId)(x y:AV):Option AV:=
 match op,x,y with
 |.shl,.sc (.int k a),.sc (.int _ b)=>if b<0 then none else some (.sc (.int k (k.wrap (a*2^min b.toNat k.bits))))|.shr,.sc (.int k a),.sc (.int _ b)=>if b<0 then none else some (.sc (.int k (a.fdiv (2^min b.toNat k.bits))))|op,.sc (.int k a),.sc (.int k' b)=>if k=k' then(qt op k a b).map .sc else none|op,.sc (.string a),.sc (.string b)=>(M3 op a b).map .sc|.eql,.sc (.bool a),.sc (.bool b)=>match P.underlying t with|some .bool=>some (.sc (.bool (a==b)))|_=>none
 |.neq,.sc (.bool a),.sc (.bool b)=>match P.underlying t with|some .bool=>some (.sc (.bool (!(a==b))))|_=>none
 |.eql,x,.sc (.pointer none)=>match P.underlying t with
  |some (.pointer _)=>if DY x then some (.sc (.bool false))else(match x with|.sc (.pointer none)=>some (.sc (.bool true))|_=>none)
  |_=>none
 |.neq,x,.sc (.pointer none)=>match P.underlying t with
  |some (.pointer _)=>if DY x then some (.sc (.bool true))else(match x with|.sc (.pointer none)=>some (.sc (.bool false))|_=>none)
  |_=>none
 |.eql,.func _ _ _,.sc .nilFunc=>match P.underlying t with|some (.func ..)=>some (.sc (.bool false))|_=>none
 |.neq,.func _ _ _,.sc .nilFunc=>match P.underlying t with|some (.func ..)=>some (.sc (.bool true))|_=>none
 |.eql,.sc .nilFunc,.sc .nilFunc=>match P.underlying t with|some (.func ..)=>some (.sc (.bool true))|_=>none
 |.neq,.sc .nilFunc,.sc .nilFunc=>match P.underlying t with|some (.func ..)=>some (.sc (.bool false))|_=>none
 |_,_,_=>none
def unA(op:UnOp)(x:AV):Option AV:=
 match op,x with
 |.neg,.sc (.int k n)=>some (.sc (.int k (k.wrap (0-n))))|.not,.sc (.bool b)=>some (.sc (.bool !b))|_,_=>none
def gi{F:kM}{ρ:Maps}{u v:Value}(h:gG F ρ (.sc u) v):v=u:=by
 cases h with
 |cell h=>cases h with|p h=>cases h;rfl
def Jh(P:Program)(w:World){op:BinOp}{k:IntKind}{a b:Int}{v:Value}(t:TypeId)(h:qt op k a b=some v):(binOp op t (.int k a) (.int k b)).run P w=.ok v w/\y0 v=true:=by
 cases op<;>simp only[qt] at h<;>(try(split at h))<;>
  (first
   |(cases h;refine⟨?_,rfl⟩;simp[binOp,Op.intArith,Op.intBits,Op.intCmp,Op.intDiv, *])
   |cases h)
def IU(P:Program)(w:World){op:BinOp}{a b:ByteArray}{v:Value}(t:TypeId)(h:M3 op a b=some v):(binOp op t (.string a) (.string b)).run P w=.ok v w/\y0 v=true:=by
 cases op<;>simp only[M3] at h<;>(try(split at h))<;>
  (first
   |(cases h;refine⟨?_,rfl⟩;simp_all [binOp,Op.stringOp])
   |cases h)
def Fw{F:kM}{ρ:Maps}{x:AV}{v:Value}(b:DY x=true)(h:gG F ρ x v):∃a,v=.pointer (some a):=by
 cases h with
 |agg c d=>grind[DY]|cell h=>
  cases h with
  |h9 h=>grind|loc c d f=>simp[DY] at b
  |xO c d f=>simp[DY] at b
  |p h=>cases h<;>first|(simp[DY] at b;done)|exact⟨_,rfl⟩
def y_{P:Program}{t e:TypeId}(h:P.underlying t=some (.pointer e)):P.underlying t=some (.pointer (P.pointee t)):=by
 simp[Program.pointee,h]
def BC{F:kM}{ρ:Maps}{fn:Fn}{f c:List AV}{v:Value}(h:gG F ρ (.func fn f c) v):∃vf vc:List Value,v=.func fn vf.toArray vc.toArray/\hQ (gQ F ρ.G ρ.n) f vf/\hQ (gQ F ρ.G ρ.n) c vc:=by
 cases h with
 |cell h=>cases h with
  |p h=>cases h with|func a b=>exact⟨_,_,rfl,a.qw,b.qw⟩
def Sl(P:Program)(w:World){t:TypeId}{a rs:Array TypeId}{b:Bool}(hu:P.underlying t=some (.func a rs b))(fn:Fn)(f c:Array Value):(binOp .eql t (.func fn f c) .nilFunc).run P w=.ok (.bool false) w/\(binOp .neq t (.func fn f c) .nilFunc).run P w=.ok (.bool true) w:=by
 have h:∀d,(Op.equalIn (d+1) t (.func fn f c) .nilFunc).run P w=.ok false w:=λd=>by simp[Op.equalIn,run_underlying hu]
 have i:binOp .eql t (.func fn f c) .nilFunc=(do pure (.bool (<-Op.equalIn (9999+1) t (.func fn f c) .nilFunc))):=rfl;have j:binOp .neq t (.func fn f c) .nilFunc=(do pure (.bool (!(<-Op.equalIn (9999+1) t (.func fn f c) .nilFunc)))):=rfl;rw[i,j,h7,h7,h 9999];exact⟨rfl,rfl⟩
def RH(P:Program)(w:World){t:TypeId}{a rs:Array TypeId}{b:Bool}(hu:P.underlying t=some (.func a rs b)):(binOp .eql t .nilFunc .nilFunc).run P w=.ok (.bool true) w/\(binOp .neq t .nilFunc .nilFunc).run P w=.ok (.bool false) w:=by
 have h:∀d,(Op.equalIn (d+1) t .nilFunc .nilFunc).run P w=.ok true w:=λd=>by simp[Op.equalIn,run_underlying hu]
 have c:binOp .eql t .nilFunc .nilFunc=(do pure (.bool (<-Op.equalIn (9999+1) t .nilFunc .nilFunc))):=rfl;have f:binOp .neq t .nilFunc .nilFunc=(do pure (.bool (!(<-Op.equalIn (9999+1) t .nilFunc .nilFunc)))):=rfl;rw[c,f,h7,h7,h 9999];exact⟨rfl,rfl⟩
def LU:Value->Bool
 |.nilIface=>false|.agg _=>false|_=>true
def NG(P:Program)(w:World)(op:BinOp)(t:TypeId)(x y:Operand){u v:Value}(h:LU u=true):(eqGuard op t x y u v).run P w=.ok () w:=by
 cases u<;>first|(simp[LU] at h;done)|(cases op<;>rfl)
def Tz(P:Program)(w:World){F:kM}{ρ:Maps}{op:BinOp}{t:TypeId}{x y r:AV}{u v:Value}(h:uB P op t x y=some r)
  (b:gG F ρ x u) (c:gG F ρ y v):∃z,(binOp op t u v).run P w=.ok z w/\r=.sc z/\y0 z=true/\LU u=true:=by
 unfold uB at h
 split at h
 ·cases gi b;cases gi c
  split at h
  ·cases h
  ·rename_i d;cases h;exact⟨_,by simp[binOp,Op.shift,d],rfl,rfl,rfl⟩
 ·cases gi b;cases gi c
  split at h
  ·cases h
  ·rename_i d;cases h;exact⟨_,by simp[binOp,Op.shift,d],rfl,rfl,rfl⟩
 ·cases gi b;cases gi c
  split at h
  ·rename_i i;subst i;cases hi:qt op _ _ _ with
   |none=>rw[hi] at h;cases h
   |some z=>
    rw[hi] at h;cases h;exact⟨z,(Jh P w t hi).1,rfl,(Jh P w t hi).2,rfl⟩
  ·cases h
 ·cases gi b;cases gi c;cases hi:M3 op _ _ with
  |none=>rw[hi] at h;cases h
  |some z=>
   rw[hi] at h;cases h;exact⟨z,(IU P w t hi).1,rfl,(IU P w t hi).2,rfl⟩
 ·cases gi b;cases gi c
  split at h
  ·rename_i hu;cases h;exact⟨_,run_eql_bool w t _ _ hu,rfl,rfl,rfl⟩
  ·cases h
 ·cases gi b;cases gi c
  split at h
  ·rename_i hu;cases h;exact⟨_,run_neq_bool w t _ _ hu,rfl,rfl,rfl⟩
  ·cases h
 ·cases gi c
  split at h
  ·rename_i hu
   split at h
   ·rename_i f;obtain⟨a,rfl⟩:=Fw f b;cases h;exact⟨_,run_eql_pointer_nil w t _ (y_ hu),aa2,rfl,rfl⟩
   ·split at h
    ·cases gi b;cases h;exact⟨_,run_eql_pointer_nil w t _ (y_ hu),aa2,rfl,rfl⟩
    ·cases h
  ·cases h
 ·cases gi c
  split at h
  ·rename_i hu
   split at h
   ·rename_i f;obtain⟨a,rfl⟩:=Fw f b;cases h;exact⟨_,run_neq_pointer_nil w t _ (y_ hu),aa2,rfl,rfl⟩
   ·split at h
    ·cases gi b;cases h;exact⟨_,run_neq_pointer_nil w t _ (y_ hu),aa2,rfl,rfl⟩
    ·cases h
  ·cases h
 ·cases gi c;obtain⟨vf,vc,rfl,_,_⟩:=BC b
  split at h
  ·rename_i hu;cases h;exact⟨.bool false,(Sl P w hu _ _ _).1,rfl,rfl,rfl⟩
  ·cases h
 ·cases gi c;obtain⟨vf,vc,rfl,_,_⟩:=BC b
  split at h
  ·rename_i hu;cases h;exact⟨.bool true,(Sl P w hu _ _ _).2,rfl,rfl,rfl⟩
  ·cases h
 ·cases gi b;cases gi c
  split at h
  ·rename_i hu;cases h;exact⟨.bool true,(RH P w hu).1,rfl,rfl,rfl⟩
  ·cases h
 ·cases gi b;cases gi c
  split at h
  ·rename_i hu;cases h;exact⟨.bool false,(RH P w hu).2,rfl,rfl,rfl⟩
  ·cases h
 ·cases h
end Go.kY
namespace Go.kY
open Go
def n5{l:List AV}{sz:Nat}(h:∀x∈l,x.cells.length=sz):(l.flatMap AV.cells).length=l.length*sz:=by
 induction l with
 |nil=>simp|cons x l ih=>grind
def Ec{l:List AV}{sz:Nat}(h:∀x∈l,x.cells.length=sz)(n:Nat):(l.take n).flatMap AV.cells=(l.flatMap AV.cells).take (n*sz):=by
 induction l generalizing n with
 |nil=>simp|cons x l ih=>
  cases n with
  |zero=>simp|succ n=>
   have a:=h x aa2
   rw[List.take_succ_cons,Iu,Iu,ih (λy b=>h y (by simp[b])),C9,aal,List.take_append,a,ac1 (l:=x.cells) VW,ad_]
def zd{l:List AV}{sz:Nat}(h:∀x∈l,x.cells.length=sz)(n:Nat):(l.drop n).flatMap AV.cells=(l.flatMap AV.cells).drop (n*sz):=by
 induction l generalizing n with
 |nil=>simp|cons x l ih=>
  cases n with
  |zero=>simp|succ n=>
   have a:=h x aa2
   rw[List.drop_succ_cons,Iu,ih (λy b=>h y (by simp[b])),C9,aal,aex,a,Oj (as:=x.cells) VW,ad_,nT]
def N2{l:List AV}{sz:Nat}(h:∀x∈l,x.cells.length=sz){i:Nat}{x:AV}(hi:l[i]?=some x):((l.flatMap AV.cells).drop (i*sz)).take sz=x.cells:=by
 have b:=zd h i;have a:i<l.length:=(sY.1 hi).1
 have c:l.drop i=x::l.drop (i+1):=by
  have:=Kd a
  grind
 grind
def kM.has.drop{F:kM}{b o:Nat}{vs:List Value}(h:F.has b o vs)(n:Nat):F.has b (o+n) (vs.drop n):=by
 intro i v a;rw[U5] at a;have:=h _ v a
 grind
def kM.has.take{F:kM}{b o:Nat}{vs:List Value}(h:F.has b o vs)(n:Nat):F.has b o (vs.take n):=by
 intro i v a;rw[Qq] at a
 split at a
 ·exact h i v a
 ·cases a
section
variable{F:kM} {G:Nat->Nat} {n:Nat}
def hO.drop{xs vs}(h:hO F G n xs vs)(k:Nat):hO F G n (xs.drop k) (vs.drop k):=.oU (h.qw.drop k)
def hO.take{xs vs}(h:hO F G n xs vs)(k:Nat):hO F G n (xs.take k) (vs.take k):=.oU (h.qw.take k)
def hO.get{xs vs}(h:hO F G n xs vs){i:Nat}{x:AV}(a:xs[i]?=some x):∃v,vs[i]?=some v/\gQ F G n x v:=h.qw.get a
def hO.length{xs vs}(h:hO F G n xs vs):xs.length=vs.length:=h.qw.length
def hO.append{xs vs a vs'}(h:hO F G n xs vs)(b:hO F G n a vs'):hO F G n (xs++a) (vs++vs'):=.oU (h.qw.append b.qw)
end
def AV.BK{x:AV}(h:x.gL=true):x.cells=[x]:=by cases x<;>first|rfl|(simp[AV.gL] at h)
section
variable{P:Program}
def G2{t:TypeId}{b:Bool}{n:Nat}(h:fY P t=some (b,n)):∃d i,P.underlying t=some d/\P.info? t=some i/\i.size=n/\(match d with|.struct _|.array _ _=>true|_=>false)=b:=by grind[fY]
def kI{t:TypeId}{b:Bool}{n:Nat}(h:fY P t=some (b,n))(w:World):(sizeOf t).run P w=.ok n w:=by
 obtain⟨d,i,a,hi,hn,_⟩:=G2 h;simp[sizeOf,typeInfo,hi,hn]
def yU{t:TypeId}{b:Bool}{n:Nat}(h:fY P t=some (b,n))(w:World):(isAgg t).run P w=.ok b w:=by
 obtain⟨d,i,a,hi,hn,c⟩:=G2 h;subst c;unfold isAgg;rw[h7,run_underlying a];cases d<;>rfl
def AX{t:TypeId}{cs:List AV}{off:Nat}{z:AV}(h:mq P t cs off=some z):(∃k,fY P t=some (true,k)/\off+k<=cs.length/\z=.agg ((cs.drop off).take k))\/(∃k,fY P t=some (false,k)/\cs[off]?=some z):=by grind[mq]
def zI{t:TypeId}{k:Nat}(h:fY P t=some (true,k))(w:World)(a:Addr)(vs:List Value)(b:vs.length=k)
  (c:∀j v,vs[j]?=some v->w.cell? (a.add j)=some v):(loadVar t a).run P w=.ok (.agg vs.toArray) w:=by
 unfold loadVar;rw[h7,yU h];simp only[j8,if_true];rw[h7,kI h,j8,h7,<-b,run_loadCells_list w a vs c];rfl
def zZ{t:TypeId}{k:Nat}(h:fY P t=some (false,k))(w:World)(a:Addr)(v:Value)(b:w.cell? a=some v):(loadVar t a).run P w=.ok v w:=by
 unfold loadVar;rw[h7,yU h]
 simp_all
end
def tK(P:Program)(t:TypeId)(x:AV)(i:Nat):Option AV:=
 match e_ P t i with
 |none=>none|some (off,a)=>
  match fY P a with
  |none=>none|some (_,n)=>
   if n=0 then none else
   match x with
   |.h9 b g o=>some (.h9 b g (o+off))|.fb o f=>some (.fb o (f+off))|.mj y=>(mq P a y.cells off).map .mj|_=>none
def Di(P:Program)(t:TypeId)(x:AV)(i:Nat):Option AV:=
 match e_ P t i,x with
 |some (off,a),.agg cs=>mq P a cs off|_,_=>none
def gH(P:Program)(t:TypeId)(x i:AV):Option AV:=
 match i with
 |.sc (.int _ n)=>
  match P.underlying t,x with
  |some (.slice e),.slice _ l=>
   if 0<=n then
    match l[n.toNat]?,fY P e with
    |some y,some (_,sz)=>if y.cells.length=sz then some (.mj y)else none|_,_=>none
   else none
  |some (.slice e),.xO b g len _=>
   match fY P e with
   |some (_,sz)=>if 0<=n/\n<len then some (.h9 b g (n.toNat*sz))else none|none=>none
  |some (.slice e),.zF b off len _=>
   match fY P e with
   |some (_,sz)=>if 0<=n/\n<len then some (.fb b (off+n.toNat*sz))else none|none=>none
  |some (.array len e),.h9 b g o=>
   match fY P e with
   |some (_,sz)=>if 0<=n/\n<len then some (.h9 b g (o+n.toNat*sz))else none|none=>none
  |some (.array len e),.fb a o=>
   match fY P e with
   |some (_,sz)=>if 0<=n/\n<len then some (.fb a (o+n.toNat*sz))else none|none=>none
  |some (.array len e),.mj y=>
   match fY P e with
   |some (_,sz)=>if 0<=n/\n<len then(mq P e y.cells (n.toNat*sz)).map .mj else none|none=>none
  |_,_=>none
 |_=>none
def PY(P:Program)(t:TypeId)(x i:AV):Option AV:=
 match i with
 |.sc (.int _ n)=>
  match P.underlying t,x with
  |some .string,.sc (.string s)=>if 0<=n then(s[n.toNat]?).map λb=>.sc (.int .u8 b.toNat)else none|some (.array len e),.agg cs=>
   match fY P e with
   |some (_,sz)=>if 0<=n/\n<len then mq P e cs (n.toNat*sz)else none|none=>none
  |_,_=>none
 |_=>none
section
variable{P:Program} {F:kM} {ρ:Maps}
def EN{cs:List AV}{v:Value}(h:gG F ρ (.agg cs) v):∃vs:List Value,v=.agg vs.toArray/\hQ (jN F ρ) cs vs/\∀c∈cs,c.gL=true:=by
 cases h with
 |agg a b=>grind|cell h=>cases h with
  |p h=>cases h with|agg a b=>exact⟨_,rfl,a.qw.mono λ_ _ _ h=>.p h,b⟩
def Qr{cs:List AV}{v:Value}(h:gG F ρ (.tuple cs) v):∃vs:List Value,v=.tuple vs.toArray/\hQ (gQ F ρ.G ρ.n) cs vs:=by
 cases h with
 |cell h=>cases h with
  |p h=>cases h with|tuple a=>exact⟨_,rfl,a.qw⟩
def vM{b g off:Nat}{v:Value}(h:gG F ρ (.h9 b g off) v):v=.pointer (some ⟨ρ.L b g,off,none⟩)/\g<=ρ.lg b:=by
 cases h with
 |cell h=>cases h with
  |p h=>cases h
  |h9 h=>grind
def vL{o off:Nat}{v:Value}(h:gG F ρ (.fb o off) v):v=.pointer (some ⟨ρ.G o,off,none⟩)/\o<ρ.n:=by
 cases h with
 |cell h=>cases h with
  |p h=>cases h with|fb h=>exact⟨rfl,h⟩
def F6{x:AV}{v:Value}(h:gG F ρ (.mj x) v):∃b o vs,v=.pointer (some ⟨b,o,none⟩)/\hO F ρ.G ρ.n x.cells vs/\F.has b o vs/\∀c∈x.cells,c.gL=true:=by
 cases h with
 |cell h=>cases h with
  |p h=>cases h with|mj a d f=>exact⟨_,_,_,rfl,a,d,f⟩
def AM{b g len cap:Nat}{v:Value}(h:gG F ρ (.xO b g len cap) v):v=.slice (some ⟨ρ.L b g,0,none⟩) len cap/\g<=ρ.lg b/\len<=cap/\cap<=maxLen:=by
 cases h with
 |cell h=>cases h with
  |p h=>cases h
  |xO a c d=>grind
def JL{o off len cap:Nat}{v:Value}(h:gG F ρ (.zF o off len cap) v):v=.slice (some ⟨ρ.G o,off,none⟩) len cap/\o<ρ.n/\len<=cap/\cap<=maxLen:=by
 cases h with
 |cell h=>cases h with
  |p h=>cases h with|zF a b c=>exact⟨rfl,a,b,c⟩
structure Y6 (F:kM) (ρ:Maps) (l:List AV) (base:Option Addr) (cap b o sz:Nat) (vs:List Value):Prop where
 cells:hO F ρ.G ρ.n (l.flatMap AV.cells) vs
 has:F.has b o vs
 base:l≠[]->base=some ⟨b,o,none⟩
 sz:∀x∈l,x.cells.length=sz
 sy:∀c∈l.flatMap AV.cells,c.gL=true
 Ca:l.length<=cap
 DW:cap<=maxLen
def gQ.LR{G:Nat->Nat}{n:Nat}{tag:Tag}{l:List AV}{v:Value}(h:gQ F G n (.slice tag l) v):∃base cap b o sz vs,v=.slice base l.length cap/\hO F G n (l.flatMap AV.cells) vs/\F.has b o vs/\(l≠[]->base=some ⟨b,o,none⟩)/\(∀x∈l,x.cells.length=sz)/\(∀c∈l.flatMap AV.cells,c.gL=true)/\l.length<=cap/\cap<=maxLen/\(tag=.gI\/tag=.full/\cap=l.length):=by
 cases h with|slice a d f i j k q r=>exact⟨_,_,_,_,_,_,rfl,a,d,f,i,j,k,q,r⟩
def nk{tag:Tag}{l:List AV}{v:Value}(h:gG F ρ (.slice tag l) v):∃base cap b o sz vs,v=.slice base l.length cap/\Y6 F ρ l base cap b o sz vs/\(tag=.full->cap=l.length)/\(∀k g,tag=.loc k g->g<=ρ.ag k/\uY ρ k g l base cap):=by
 cases h with
 |cell h=>cases h with
  |p h=>
   obtain⟨base,cap,b,o,sz,vs,rfl,a,q,r,c,d,f,i,s⟩:=h.LR;refine⟨base,cap,b,o,sz,vs,rfl,⟨a,q,r,c,d,f,i⟩,?_,?_⟩
   all_goals grind
  |loc a q r=>
   obtain⟨base,cap,b,o,sz,vs,he,a,j,n,c,d,f,i,s⟩:=a.LR;injection he with t w u;subst t;subst u;refine⟨_,_,b,o,sz,vs,rfl,⟨a,j,n,c,d,f,i⟩,(by intro h;cases h),?_⟩
   grind
def LK{G:Nat->Nat}{n:Nat}{cs:List AV}{vs:List Value}{b o:Nat}{t:TypeId}{off:Nat}{z:AV}(f:hO F G n cs vs)(h:F.has b o vs)(j:∀c∈cs,c.gL=true)
  (l:mq P t cs off=some z):gQ F G n (.mj z) (.pointer (some ⟨b,o+off,none⟩)):=by
 rcases AX l with⟨k,q,hle,rfl⟩|⟨k,q,d⟩
 ·exact .mj ((f.drop off).take k) ((h.drop off).take k) (λc d=>j c (Fj (Db d)))
 ·obtain⟨v,r,s⟩:=f.get d;have a:=j z (Hb d);refine .mj (vs:=[v]) (by rw[AV.BK a];exact .cons s .nil) ?_ (by rw[AV.BK a];simpa using a);intro i u hu;cases i with
  |zero=>simp at hu;subst hu;exact h off _ r
  |succ i=>simp at hu
def Kr(w:World){t:TypeId}{x r:AV}{u:Value}{i:Nat}(h:tK P t x i=some r)(c:gG F ρ x u):∃v,(Instr.fieldAt t u i).run P w=.ok v w/\gG F ρ r v:=by
 unfold tK at h
 split at h
 ·cases h
 ·rename_i off k B
  split at h
  ·cases h
  ·rename_i agg n l
   split at h
   ·cases h
   ·rename_i hn
    have a:∃fs f,P.underlying t=some (.struct fs)/\fs[i]?=some f/\f.offset=off/\f.type=k:=by grind[e_]
    obtain⟨fs,f,hu,d,rfl,rfl⟩:=a
    have key:∀b o:Nat,(Instr.fieldAt t (.pointer (some ⟨b,o,none⟩)) i).run P w=.ok (.pointer (some ⟨b,o+f.offset,none⟩)) w:=by
     intro b o;unfold Instr.fieldAt;rw[h7,run_underlying hu,j8];simp only[d,Instr.sureAddr,h7,pP,j8,fieldPlace,kI l,hn,iU,Addr.add_lit]
    split at h
    ·rename_i b g o;cases h;obtain⟨rfl,hg⟩:=vM c;exact⟨_,key _ _,.cell (.h9 hg)⟩
    ·rename_i o C;cases h;obtain⟨rfl,hg⟩:=vL c;exact⟨_,key _ _,.p (.fb hg)⟩
    ·rename_i y;obtain⟨b,o,vs,rfl,q,s,A⟩:=F6 c;cases j:mq P f.type y.cells f.offset with
     |none=>rw[j] at h;cases h
     |some z=>
      rw[j] at h;cases h;exact⟨_,key _ _,.p (LK q s A j)⟩
    ·cases h
def DX(w:World){t:TypeId}{cs:List AV}{vs:List Value}{off:Nat}{z:AV}(d:hQ (jN F ρ) cs vs)(f:∀c∈cs,c.gL=true)(h:mq P t cs off=some z):∃v,(part t vs.toArray off).run P w=.ok v w/\gG F ρ z v:=by
 rcases AX h with⟨k,a,hle,rfl⟩|⟨k,a,b⟩
 ·refine⟨.agg ((vs.drop off).take k).toArray,?_,.agg ((d.drop off).take k) (λc b=>f c (Fj (Db b)))⟩;unfold part;rw[h7,yU a];simp only[j8,if_true,h7,kI a,pP]
  grind
 ·obtain⟨v,i,j⟩:=d.get b;refine⟨v,?_,.cell j⟩;unfold part;rw[h7,yU a];simp[i]
def S5(w:World){t:TypeId}{x r:AV}{u:Value}{i:Nat}(h:Di P t x i=some r)(c:gG F ρ x u):∃v,(Instr.field t u i).run P w=.ok v w/\gG F ρ r v:=by
 unfold Di at h
 split at h
 ·rename_i off d cs o;obtain⟨vs,rfl,j,k⟩:=EN c
  have a:∃fs f,P.underlying t=some (.struct fs)/\fs[i]?=some f/\f.offset=off/\f.type=d:=by grind[e_]
  obtain⟨fs,f,hu,b,rfl,rfl⟩:=a;obtain⟨v,l,n⟩:=DX w j k h;refine⟨v,?_,n⟩;unfold Instr.field;rw[h7,run_underlying hu];simp only[b,asAgg,h7,pP,j8,l]
 ·cases h
def J2(w:World){t:TypeId}{x i r:AV}{u j:Value}(h:gH P t x i=some r)(q:gG F ρ x u)(hi:gG F ρ i j):∃v,(Instr.indexAt t u j).run P w=.ok v w/\gG F ρ r v:=by
 unfold gH at h
 split at h
 ·rename_i k n;cases gi hi
  split at h
  ·rename_i e tag l hu
   split at h
   ·rename_i hn
    split at h
    ·rename_i y agg sz A a
     split at h
     ·rename_i B;cases h;obtain⟨base,cap,b,o,d,vs,rfl,hs,_,_⟩:=nk q;have C:n.toNat<l.length:=(sY.1 A).1
      have D:l≠[]:=by rintro rfl;simp at C
      have f:=Hb A
      have s:d=sz:=by rw[<-hs.sz y f,B]
      subst s;rw[hs.base D];refine⟨.pointer (some ⟨b,o+n.toNat*d,none⟩),?_,.p (.mj (vs:=(vs.drop (n.toNat*d)).take d) ?_ ?_ ?_)⟩
      ·unfold Instr.indexAt;simp only[asIntOf,h7,pP,j8,run_underlying hu];rw[dR ⟨hn,VW⟩];simp only[h7,pP,j8,kI a,Addr.add_lit]
      ·rw[<-N2 hs.sz A];exact(hs.cells.drop _).take _
      ·exact(hs.has.drop _).take _
      ·intro c I;exact hs.sy c (aaZ.2 ⟨y,f,I⟩)
     ·cases h
    ·cases h
   ·cases h
  ·rename_i e b g len cap hu
   split at h
   ·rename_i agg sz a
    split at h
    ·rename_i hn;cases h;obtain⟨rfl,hg,_,_⟩:=AM q;refine⟨.pointer (some ⟨ρ.L b g,n.toNat*sz,none⟩),?_,.cell (.h9 hg)⟩;unfold Instr.indexAt;simp only[asIntOf,h7,pP,j8,run_underlying hu];rw[dR ⟨hn.1,VW⟩];simp only[h7,pP,j8,kI a,Addr.add_lit,Aa]
    ·cases h
   ·cases h
  ·rename_i e b off len cap hu
   split at h
   ·rename_i agg sz a
    split at h
    ·rename_i hn;cases h;obtain⟨rfl,hg,_,_⟩:=JL q;refine⟨.pointer (some ⟨ρ.G b,off+n.toNat*sz,none⟩),?_,.p (.fb hg)⟩;unfold Instr.indexAt;simp only[asIntOf,h7,pP,j8,run_underlying hu];rw[dR ⟨hn.1,VW⟩];simp only[h7,pP,j8,kI a,Addr.add_lit]
    ·cases h
   ·cases h
  ·rename_i len e b g o hu
   split at h
   ·rename_i agg sz a
    split at h
    ·rename_i hn;cases h;obtain⟨rfl,hg⟩:=vM q;refine⟨.pointer (some ⟨ρ.L b g,o+n.toNat*sz,none⟩),?_,.cell (.h9 hg)⟩;unfold Instr.indexAt;simp only[asIntOf,Instr.sureAddr,h7,pP,j8,run_underlying hu];rw[dR hn];simp only[h7,pP,j8,kI a,Addr.add_lit]
    ·cases h
   ·cases h
  ·rename_i len e J o hu
   split at h
   ·rename_i agg sz a
    split at h
    ·rename_i hn;cases h;obtain⟨rfl,hg⟩:=vL q;refine⟨.pointer (some ⟨ρ.G J,o+n.toNat*sz,none⟩),?_,.p (.fb hg)⟩;unfold Instr.indexAt;simp only[asIntOf,Instr.sureAddr,h7,pP,j8,run_underlying hu];rw[dR hn];simp only[h7,pP,j8,kI a,Addr.add_lit]
    ·cases h
   ·cases h
  ·rename_i len e y hu
   split at h
   ·rename_i agg sz a
    split at h
    ·rename_i hn;obtain⟨b,o,vs,rfl,K,M,N⟩:=F6 q;cases H:mq P e y.cells (n.toNat*sz)with
     |none=>rw[H] at h;cases h
     |some z=>
      rw[H] at h;cases h;refine⟨.pointer (some ⟨b,o+n.toNat*sz,none⟩),?_,.p (LK K M N H)⟩;unfold Instr.indexAt;simp only[asIntOf,Instr.sureAddr,h7,pP,j8,run_underlying hu];rw[dR hn];simp only[h7,pP,j8,kI a,Addr.add_lit]
    ·cases h
   ·cases h
  ·cases h
 ·cases h
def Uc(w:World){t:TypeId}{x i r:AV}{u j:Value}(h:PY P t x i=some r)(c:gG F ρ x u)(hi:gG F ρ i j):∃v,(Instr.index t u j).run P w=.ok v w/\gG F ρ r v:=by
 unfold PY at h
 split at h
 ·rename_i k n;cases gi hi
  split at h
  ·rename_i s hu;cases gi c
   split at h
   ·rename_i hn;cases a:s[n.toNat]?with
    |none=>rw[a] at h;cases h
    |some b=>
     rw[a] at h;cases h;refine⟨.int .u8 b.toNat,?_,.p (.sc rfl)⟩;unfold Instr.index;simp[asIntOf,run_underlying hu,hn,a]
   ·cases h
  ·rename_i len e cs hu
   split at h
   ·rename_i agg sz d
    split at h
    ·rename_i hn;obtain⟨vs,rfl,f,l⟩:=EN c;obtain⟨v,o,q⟩:=DX w f l h;refine⟨v,?_,q⟩;unfold Instr.index;simp only[asIntOf,h7,pP,j8,run_underlying hu];rw[dR hn];simp only[h7,kI d,j8,o]
    ·cases h
   ·cases h
  ·cases h
 ·cases h
end
end Go.kY
