/- Part of the proof of TranslateWitness: layer. -/
import Derived.Orders
import Derived.Below
import Derived.Laws.AppendOwn
import Derived.Laws.Cells
import Derived.Laws.CopyRow
import Derived.Laws.Small
import Derived.Laws.Pointers
import Derived.WalkSpells
import Derived.Test.YtffcgfpaakhbjaaGreatDoorB1
set_option linter.all false
namespace Go.jX
open Go
inductive Tag where
 |ja|full|loc (k g:Nat)
inductive AV where
 |undef|sc (v:Value)|ji (x:AV)|gJ (b g off:Nat)|de (o off:Nat)|slice (tag:Tag) (l:List AV)|agg (cs:List AV)|tuple (vs:List AV)|func (fn:Fn) (first cap:List AV)
 |iface (t:TypeId) (x:AV)|tB (b g len cap:Nat)|nc (o:Nat)|uJ (ks:List Value) (xs:List AV)|kH (o since:Nat) (seen:List Nat)|nU (o off len cap:Nat)|B4
instance:Inhabited AV:=⟨.undef⟩
def AV.cells:AV->List AV
 |.agg cs=>cs|x=>[x]
def AV.dW:AV->Bool
 |.agg _=>false|.tuple _=>false|.uJ _ _=>false|.kH _ _ _=>false|_=>true
def vO:Value->Bool
 |.bool _=>true|.int _ _=>true|.float _ _=>true|.string _=>true|.pointer none=>true|.map none=>true|.nilFunc=>true|.nilIface=>true|_=>false
inductive eM {α β:Type} (R:α->β->Prop):List α->List β->Prop
 |nil:eM R [] []|cons {a b as bs}:R a b->eM R as bs->eM R (a::as) (b::bs)
def eM.length{α β:Type}{R:α->β->Prop}{as:List α}{bs:List β}(h:eM R as bs):as.length=bs.length:=by
 induction h with
 |nil=>rfl|cons _ _ a=>simp[a]
def eM.mono{α β:Type}{R S:α->β->Prop}{as:List α}{bs:List β}(h:eM R as bs)(hs:∀a b,a∈as->R a b->S a b):eM S as bs:=by
 induction h with
 |nil=>exact .nil|cons c _ d=>exact .cons (hs _ _ th c) (d λa b e=>hs a b VW)
def eM.append{α β:Type}{R:α->β->Prop}{as a:List α}{bs b:List β}(h:eM R as bs)(c:eM R a b):eM R (as++a) (bs++b):=by
 induction h with
 |nil=>exact c|cons d _ e=>exact .cons d e
def eM.take{α β:Type}{R:α->β->Prop}{as:List α}{bs:List β}(h:eM R as bs)(n:Nat):eM R (as.take n) (bs.take n):=by
 induction h generalizing n with
 |nil=>simp;exact .nil|cons a _ b=>cases n with
  |zero=>exact .nil|succ n=>exact .cons a (b n)
def eM.drop{α β:Type}{R:α->β->Prop}{as:List α}{bs:List β}(h:eM R as bs)(n:Nat):eM R (as.drop n) (bs.drop n):=by
 induction h generalizing n with
 |nil=>simp;exact .nil|cons a b c=>cases n with
  |zero=>exact .cons a b|succ n=>exact c n
def eM.get{α β:Type}{R:α->β->Prop}{as:List α}{bs:List β}(h:eM R as bs){i:Nat}{a:α}(c:as[i]?=some a):∃b,bs[i]?=some b/\R a b:=by
 induction h generalizing i with
 |nil=>simp at c
 |cons d _ e=>cases i with
  |zero=>simp at c;subst c;exact⟨_,rfl,d⟩
  |succ i=>simp at c;simpa using e c
def eM.mem{α β:Type}{R:α->β->Prop}{as:List α}{bs:List β}(h:eM R as bs){b:β}(hb:b∈bs):∃a∈as,R a b:=by
 induction h with
 |nil=>simp at hb
 |cons c _ d=>
  rcases jA.1 hb with rfl|hb
  ·exact⟨_,th,c⟩
  ·obtain⟨a,e,f⟩:=d hb;exact⟨a,VW,f⟩
def eM.uX{α α' β:Type}{R:α->β->Prop}{S:α'->β->Prop}{as:List α}{bs:List β}(f:α->α')(h:eM R as bs)(hs:∀a b,a∈as->R a b->S (f a) b):eM S (as.map f) bs:=by
 induction h with
 |nil=>exact .nil|cons c _ d=>exact .cons (hs _ _ th c) (d λa b e=>hs a b VW)
abbrev jf:=Nat->Nat->Option Value
def jf.has(F:jf)(b o:Nat)(vs:List Value):Prop:=∀i v,vs[i]?=some v->F b (o+i)=some v
mutual
inductive eE (F:jf) (G:Nat->Nat) (n:Nat):AV->Value->Prop
 |undef {v}:v.oneCell'=true->eE F G n .undef v|sc {v}:vO v=true->eE F G n (.sc v) v|ji {x b o vs}:eT F G n x.cells vs->F.has b o vs->(∀c∈x.cells,c.dW=true)->eE F G n (.ji x) (.pointer (some ⟨b,o,none⟩))|de {o off}:o<n->eE F G n (.de o off) (.pointer (some ⟨G o,off,none⟩))|nc {o}:o<n->eE F G n (.nc o) (.map (some (G o)))|nU {o off len cap}:o<n->len<=cap->cap<=maxLen->eE F G n (.nU o off len cap) (.slice (some ⟨G o,off,none⟩) len cap)|slice {tag l vs b o base cap sz}:eT F G n (l.flatMap AV.cells) vs->F.has b o vs->(l≠[]->base=some ⟨b,o,none⟩)->(∀x∈l,x.cells.length=sz)->(∀c∈l.flatMap AV.cells,c.dW=true)->l.length<=cap->cap<=maxLen->tag=.ja\/tag=.full/\cap=l.length->eE F G n (.slice tag l) (.slice base l.length cap)|B4 {base}:eE F G n .B4 (.slice base 0 0)|agg {cs vs}:eT F G n cs vs->(∀c∈cs,c.dW=true)->eE F G n (.agg cs) (.agg vs.toArray)|tuple {cs vs}:eT F G n cs vs->eE F G n (.tuple cs) (.tuple vs.toArray)|func {fn f c vf vc}:eT F G n f vf->eT F G n c vc->eE F G n (.func fn f c) (.func fn vf.toArray vc.toArray)|iface {t x v}:eE F G n x v->eE F G n (.iface t x) (.iface t v)
inductive eT (F:jf) (G:Nat->Nat) (n:Nat):List AV->List Value->Prop
 |nil:eT F G n [] []|cons {x v xs vs}:eE F G n x v->eT F G n xs vs->eT F G n (x::xs) (v::vs)
end
section
variable{F F':jf} {G G':Nat->Nat} {n n':Nat}
def eT.rL{xs vs}(h:eT F G n xs vs):eM (eE F G n) xs vs:=by
 induction xs generalizing vs with
 |nil=>cases h;exact .nil
 |cons x xs a=>cases h with|cons b c=>exact .cons b (a c)
def eT.m6{xs vs}(h:eM (eE F G n) xs vs):eT F G n xs vs:=by
 induction h with
 |nil=>exact .nil|cons a _ b=>exact .cons a b
structure C8 (F F':jf) (G G':Nat->Nat) (n n':Nat):Prop where
 mF:∀b o v,F b o=some v->F' b o=some v
 mn:n<=n'
 mG:∀o,o<n->G' o=G o
def C8.refl:C8 F F G G n n:=⟨λ_ _ _ h=>h,fC _,λ_ _=>rfl⟩
def jf.has.grow{b o vs}(h:F.has b o vs)(hg:C8 F F' G G' n n'):F'.has b o vs:=λi v a=>hg.mF _ _ _ (h i v a)
mutual
def eE.grow(hg:C8 F F' G G' n n'):∀{x v},eE F G n x v->eE F' G' n' x v
 |_,_,.undef h=>.undef h|_,_,.sc h=>.sc h|_,_,.ji a b c=>.ji (a.grow hg) (b.grow hg) c|_,_,.de (o:=o) (off:=off) h=>by
  rw[<-hg.mG o h];exact .de (Ou h hg.mn)
 |_,_,.nc (o:=o) h=>by
  rw[<-hg.mG o h];exact .nc (Ou h hg.mn)
 |_,_,.nU (o:=o) h b c=>by
  rw[<-hg.mG o h];exact .nU (Ou h hg.mn) b c
 |_,_,.slice a b c d e f g i=>.slice (a.grow hg) (b.grow hg) c d e f g i|_,_,.B4=>.B4|_,_,.agg a b=>.agg (a.grow hg) b|_,_,.tuple a=>.tuple (a.grow hg)|_,_,.func a b=>.func (a.grow hg) (b.grow hg)|_,_,.iface a=>.iface (a.grow hg)
def eT.grow(hg:C8 F F' G G' n n'):∀{xs vs},eT F G n xs vs->eT F' G' n' xs vs
 |_,_,.nil=>.nil|_,_,.cons a b=>.cons (a.grow hg) (b.grow hg)
end
def eE.IT{x v}(h:eE F G n x v)(a:x.dW=true):v.oneCell'=true:=by
 cases h with
 |undef h=>exact h|sc h=>revert h;cases v<;>simp[vO,Value.oneCell']
 |agg b c=>simp[AV.dW] at a
 |tuple b=>simp[AV.dW] at a
 |_=>rfl
def eE.cells{x v}(h:eE F G n x v)(d:∀vs,x≠ .tuple vs):eT F G n x.cells v.cells.toList:=by
 cases h with
 |undef h=>cases v<;>first|exact .cons (.undef h) .nil|(simp[Value.oneCell'] at h;done)
 |sc h=>cases v<;>first|exact .cons (.sc h) .nil|(simp[vO] at h;done)
 |ji a b c=>exact .cons (.ji a b c) .nil|de a=>exact .cons (.de a) .nil|nc a=>exact .cons (.nc a) .nil|nU a b c=>exact .cons (.nU a b c) .nil|slice a b c e f g i j=>exact .cons (.slice a b c e f g i j) .nil|B4=>exact .cons .B4 .nil|agg a b=>exact a|tuple a=>exact absurd rfl (d _)|func a b=>exact .cons (.func a b) .nil|iface a=>exact .cons (.iface a) .nil
end
structure Maps where
 G:Nat->Nat
 n:Nat
 L:Nat->Nat->Nat
 lg:Nat->Nat
 A:Nat->Nat->Option (Nat×Nat×Nat)
 ag:Nat->Nat
def ql(ρ:Maps)(k g:Nat)(l:List AV)(base:Option Addr)(cap:Nat):Prop:=
 match ρ.A k g with
 |none=>cap=l.length|some (b,c,sz)=>base=some ⟨b,0,none⟩/\cap=c/\∀x∈l,x.cells.length=sz
inductive hO (F:jf) (ρ:Maps):AV->Value->Prop
 |p {x v}:eE F ρ.G ρ.n x v->hO F ρ x v|gJ {b g off}:g<=ρ.lg b->hO F ρ (.gJ b g off) (.pointer (some ⟨ρ.L b g,off,none⟩))|loc {k g l base cap}:eE F ρ.G ρ.n (.slice .ja l) (.slice base l.length cap)->g<=ρ.ag k->ql ρ k g l base cap->hO F ρ (.slice (.loc k g) l) (.slice base l.length cap)|tB {b g len cap}:g<=ρ.lg b->len<=cap->cap<=maxLen->hO F ρ (.tB b g len cap) (.slice (some ⟨ρ.L b g,0,none⟩) len cap)
inductive ej (F:jf) (ρ:Maps):AV->Value->Prop
 |cell {x v}:hO F ρ x v->ej F ρ x v|agg {cs vs}:eM (hO F ρ) cs vs->(∀c∈cs,c.dW=true)->ej F ρ (.agg cs) (.agg vs.toArray)
structure uh (F F':jf) (ρ ρ':Maps):Prop where
 g:C8 F F' ρ.G ρ'.G ρ.n ρ'.n
 lg:∀b,ρ.lg b<=ρ'.lg b
 L:∀b g,g<=ρ.lg b->ρ'.L b g=ρ.L b g
 ag:∀k,ρ.ag k<=ρ'.ag k
 A:∀k g,g<=ρ.ag k->ρ'.A k g=ρ.A k g
section
variable{F F':jf} {ρ ρ':Maps}
def hO.grow(hg:uh F F' ρ ρ'){x v}(h:hO F ρ x v):hO F' ρ' x v:=by
 cases h with
 |p h=>exact .p (h.grow hg.g)|gJ h=>
  rename_i b g off;rw[<-hg.L b g h];exact .gJ (Bw h (hg.lg b))
 |loc d a c=>
  refine .loc (d.grow hg.g) (Bw a (hg.ag _)) ?_;unfold ql;rw[hg.A _ _ a];exact c
 |tB h a c=>
  rename_i b g len cap;rw[<-hg.L b g h];exact .tB (Bw h (hg.lg b)) a c
def ej.grow(hg:uh F F' ρ ρ'){x v}(h:ej F ρ x v):ej F' ρ' x v:=by
 cases h with
 |cell h=>exact .cell (h.grow hg)|agg a b=>exact .agg (a.mono λ_ _ _ h=>h.grow hg) b
def ej.p{x v}(h:eE F ρ.G ρ.n x v):ej F ρ x v:=.cell (.p h)
end
def AV.gS:AV->AV
 |.slice _ l=>.slice .ja l|.gJ _ _ _=>.undef|.tB _ _ _ _=>.undef|x=>x
def AV.norm:AV->AV
 |.agg cs=>.agg (cs.map AV.gS)|x=>x.gS
section
variable{F F':jf} {ρ ρ':Maps}
def eE.ja{G:Nat->Nat}{n:Nat}{tag l v}(h:eE F G n (.slice tag l) v):eE F G n (.slice .ja l) v:=by
 cases h with
 |slice a b c d e f g i=>exact .slice a b c d e f g (.inl rfl)
def eE.gS{G:Nat->Nat}{n:Nat}{x v}(h:eE F G n x v):eE F G n x.gS v:=by
 cases x with
 |slice tag l=>exact h.ja|gJ b g off=>cases h
 |tB b g len cap=>cases h
 |_=>exact h
def hO.gS{x v}(h:hO F ρ x v):eE F ρ.G ρ.n x.gS v:=by
 cases h with
 |p h=>exact h.gS|gJ h=>exact .undef rfl|loc a b c=>exact a|tB a b c=>exact .undef rfl
def AV.Cl(x:AV):x.gS.dW=x.dW:=by cases x<;>rfl
def ej.norm{x v}(h:ej F ρ x v):eE F ρ.G ρ.n x.norm v:=by
 have d:∀{cs:List AV} {vs:List Value},eM (hO F ρ) cs vs->(∀c∈cs,c.dW=true)->eE F ρ.G ρ.n (AV.agg cs).norm (.agg vs.toArray):=by
  intro cs vs e f;refine .agg (eT.m6 (e.uX AV.gS λa b _ h=>h.gS)) ?_;intro c g;obtain⟨a,i,rfl⟩:=kI.1 g;rw[AV.Cl];exact f a i
 cases h with
 |agg e f=>exact d e f|cell h=>
  cases x with
  |agg cs=>
   cases h with
   |p h=>
    cases h with
    |agg e f=>exact d (e.rL.mono λ_ _ _ h=>.p h) f
  |_=>exact h.gS
def ej.cells{x v}(h:ej F ρ x v)(d:∀vs,x≠ .tuple vs):eM (hO F ρ) x.cells v.cells.toList:=by
 cases h with
 |agg a b=>exact a|cell h=>
  cases h with
  |p h=>exact(h.cells d).rL.mono λ_ _ _ h=>.p h|gJ h=>exact .cons (.gJ h) .nil|loc a b c=>exact .cons (.loc a b c) .nil|tB a b c=>exact .cons (.tB a b c) .nil
def hO.IT{x v}(h:hO F ρ x v)(a:x.dW=true):v.oneCell'=true:=by
 cases h with
 |p h=>exact h.IT a|gJ h=>rfl|loc b c d=>rfl|tB b c d=>rfl
def ej.pU{x v}(h:ej F ρ x v)(d:∀vs,x≠ .tuple vs):∀c∈x.cells,c.dW=true:=by
 cases h with
 |agg b a=>exact a|cell h=>
  cases h with
  |p h=>
   cases h with
   |agg b a=>exact a|tuple b=>exact absurd rfl (d _)|_=>simp[AV.cells,AV.dW]
  |gJ h=>simp[AV.cells,AV.dW]|loc b a e=>simp[AV.cells,AV.dW]|tB b a e=>simp[AV.cells,AV.dW]
end
end Go.jX
namespace Go.jX
open Go
abbrev cd:=List (List AV)
abbrev cW:=Nat->Option AV
structure Fr where
 env:Nat->AV
 box:Nat->Option (List AV)
 gen:Nat->Nat
 rq:Nat->Option Nat
 ds:Nat->Nat
def eH{α:Type}(f:Nat->α)(i:Nat)(x:α):Nat->α:=λj=>if j=i then x else f j
def Fr.put(fr:Fr)(d:Option Nat)(x:AV):Fr:=
 match d with
 |some d=>{fr with env:=eH fr.env d x}|none=>fr
section
variable(P:Program)
def dL(t:TypeId):Option (Bool×Nat):=
 match P.underlying t,P.info? t with
 |some d,some i=>some (match d with|.struct _|.array _ _=>true|_=>false,i.size)
 |_,_=>none
def zeroOf(t:TypeId):Option Value:=(P.info? t).bind (·.zero)
def dA(t i:Nat):Option (Nat×TypeId):=
 match P.underlying t with
 |some (.struct fs)=>(fs[i]?).map λf=>(f.offset,f.type)|_=>none
def KE(t:TypeId):Option (Nat×TypeId):=
 match P.underlying t with
 |some (.array n e)=>some (n,e)|_=>none
def kD(t:TypeId)(cs:List AV)(off:Nat):Option AV:=
 match dL P t with
 |some (true,n)=>if off+n<=cs.length then some (.agg ((cs.drop off).take n))else none|some (false,_)=>cs[off]?|none=>none
def tM(t:TypeId)(x:AV):Bool:=
 match dL P t,x with
 |some (true,n),.agg cs=>cs.length==n|some (false,_),.agg _=>false|some (false,_),.tuple _=>false|some (false,_),.uJ _ _=>false|some (false,_),.kH _ _ _=>false|some (false,_),_=>true|_,_=>false
end
def setCells(cs:List AV)(off:Nat)(new:List AV):List AV:=cs.take off++new++cs.drop (off+new.length)
def oq:Value->AV
 |.slice none 0 0=>.slice .full []|.func fn f c=>if f.size=0/\c.size=0 then .func fn [] [] else .undef|.agg _=>.undef|.tuple _=>.undef|v=>if vO v then .sc v else .undef
def ofValue:Value->AV
 |.agg cs=>.agg (cs.toList.map oq)|.tuple cs=>.tuple (cs.toList.map oq)|v=>oq v
def vR:Value->Bool
 |.agg cs=>cs.all (·.oneCell')|.tuple cs=>cs.all (·.oneCell')|_=>true
def vD(v:Value):(oq v).dW=true:=by
 unfold oq
 split<;>first|rfl|(split<;>rfl)
def Cc(F:jf)(G:Nat->Nat)(n:Nat)(v:Value)(h:v.oneCell'=true):eE F G n (oq v) v:=by
 unfold oq
 split
 ·exact .slice (l:=[]) (vs:=[]) (b:=0) (o:=0) (sz:=0) .nil (λ_ _ h=>by simp at h) th th th th (by simp[maxLen]) (.inr ⟨rfl,rfl⟩)
 ·rename_i fn f c
  split
  ·rename_i hs;obtain⟨a,d⟩:=hs;have e:f=#[]:=SM a;have g:c=#[]:=SM d;subst e;subst g;exact .func (vf:=[]) (vc:=[]) .nil .nil
  ·exact .undef rfl
 ·simp[Value.oneCell'] at h
 ·simp[Value.oneCell'] at h
 ·split
  ·exact .sc (by assumption)
  ·exact .undef h
def oF(F:jf)(G:Nat->Nat)(n:Nat):∀(vs:List Value),(∀v∈vs,v.oneCell'=true)->eT F G n (vs.map oq) vs
 |[],_=>.nil|v::vs,h=>.cons (Cc F G n v (h v th)) (oF F G n vs λu hu=>h u (by simp[hu]))
def CI{v:Value}(h:v.oneCell'=true):ofValue v=oq v:=by
 cases v<;>first|rfl|(simp[Value.oneCell'] at h)
def v_(F:jf)(G:Nat->Nat)(n:Nat)(v:Value)(h:vR v=true):eE F G n (ofValue v) v:=by
 cases v with
 |agg cs=>
  have b:∀v∈cs.toList,v.oneCell'=true:=λv d=>by
   have e:cs.all (·.oneCell')=true:=h
   exact F1.1 e v (uS.1 d)
  exact .agg (vs:=cs.toList) (oF F G n cs.toList b) (by
   intro c f;obtain⟨a,_,rfl⟩:=kI.1 f
   exact vD a)
 |tuple cs=>
  have b:∀v∈cs.toList,v.oneCell'=true:=λv d=>by
   have e:cs.all (·.oneCell')=true:=h
   exact F1.1 e v (uS.1 d)
  exact .tuple (vs:=cs.toList) (oF F G n cs.toList b)
 |_=>(rw[CI rfl];exact Cc F G n _ rfl)
section
variable(T:cW) (fr:Fr)
def ev:Operand->AV
 |.tmp t=>fr.env t|.const v=>ofValue v|.global g=>match T g with|some x=>.ji x|none=>.undef
 |.func f=>.func (.func f) [] []
def gE:Operand->Bool
 |.const v=>vR v|_=>true
end
def qn(F:jf)(ρ:Maps)(fr:Fr)(a:Act):Prop:=∀t,ej F ρ (fr.env t) (a.tmps.getD t undef)
def vQ(T:cW)(F:jf)(ρ:Maps):Prop:=∀g x,T g=some x->eE F ρ.G ρ.n (.ji x) (.pointer (some ⟨g,0,none⟩))
def eg{T:cW}{fr:Fr}{F:jf}{ρ:Maps}{a:Act}(he:qn F ρ fr a)(b:vQ T F ρ)(x:Operand)(c:gE x=true):ej F ρ (ev T fr x) (a.eval x):=by
 cases x with
 |tmp t=>exact he t|const v=>exact .p (v_ _ _ _ v c)|global g=>
  show ej F ρ (match T g with|some x=>.ji x|none=>.undef) _;cases h:T g with
  |none=>exact .p (.undef rfl)|some x=>exact .p (b g x h)
 |func f=>exact .p (.func (vf:=[]) (vc:=[]) .nil .nil)
def ou(op:BinOp)(k:IntKind)(a b:Int):Option Value:=
 match op with
 |.add=>some (.int k (k.wrap (a+b)))|.sub=>some (.int k (k.wrap (a-b)))|.mul=>some (.int k (k.wrap (a*b)))|.quo=>if b=0 then none else some (.int k (k.wrap (a.tdiv b)))|.rem=>if b=0 then none else some (.int k (a.tmod b))|.and=>some (.int k (k.wrap (BitVec.ofInt k.bits a&&&BitVec.ofInt k.bits b).toNat))|.or=>some (.int k (k.wrap (BitVec.ofInt k.bits a|||BitVec.ofInt k.bits b).toNat))|.xor=>some (.int k (k.wrap (BitVec.ofInt k.bits a^^^BitVec.ofInt k.bits b).toNat))|.andNot=>some (.int k (k.wrap (BitVec.ofInt k.bits a&&&~~~BitVec.ofInt k.bits b).toNat))|.eql=>some (.bool (a==b))|.neq=>some (.bool (a !=b))|.lss=>some (.bool (a<b))|.leq=>some (.bool (a<=b))|.gtr=>some (.bool (a>b))|.geq=>some (.bool (a>=b))|_=>none
def HJ(op:BinOp)(x y:ByteArray):Option Value:=
 match op with
 |.add=>if((x.size+y.size:Nat):Int)>IntKind.i64.max then none else some (.string (x++y))|.eql=>some (.bool (x.toList==y.toList))|.neq=>some (.bool !(x.toList==y.toList))|.lss=>some (.bool (Op.bytesLess x.toList y.toList))|.leq=>some (.bool (Op.bytesLess x.toList y.toList||x.toList==y.toList))|.gtr=>some (.bool !(Op.bytesLess x.toList y.toList||x.toList==y.toList))|.geq=>some (.bool !(Op.bytesLess x.toList y.toList))|_=>none
def AG:AV->Bool
 |.ji _|.gJ _ _ _|.de _ _=>true|_=>false
def sU(P:Program)(op:BinOp)(t:TypeId)(x y:AV):Option AV:=
 match op,x,y with
 |.shl,.sc (.int k a),.sc (.int _ b)=>if b<0 then none else some (.sc (.int k (k.wrap (a*2^min b.toNat k.bits))))|.shr,.sc (.int k a),.sc (.int _ b)=>if b<0 then none else some (.sc (.int k (a.fdiv (2^min b.toNat k.bits))))|op,.sc (.int k a),.sc (.int k' b)=>if k=k' then(ou op k a b).map .sc else none|op,.sc (.string a),.sc (.string b)=>(HJ op a b).map .sc|.eql,.sc (.bool a),.sc (.bool b)=>match P.underlying t with|some .bool=>some (.sc (.bool (a==b)))|_=>none
 |.neq,.sc (.bool a),.sc (.bool b)=>match P.underlying t with|some .bool=>some (.sc (.bool (!(a==b))))|_=>none
 |.eql,x,.sc (.pointer none)=>match P.underlying t with
  |some (.pointer _)=>if AG x then some (.sc (.bool false))else(match x with|.sc (.pointer none)=>some (.sc (.bool true))|_=>none)
  |_=>none
 |.neq,x,.sc (.pointer none)=>match P.underlying t with
  |some (.pointer _)=>if AG x then some (.sc (.bool true))else(match x with|.sc (.pointer none)=>some (.sc (.bool false))|_=>none)
  |_=>none
 |.eql,.func _ _ _,.sc .nilFunc=>match P.underlying t with|some (.func ..)=>some (.sc (.bool false))|_=>none
 |.neq,.func _ _ _,.sc .nilFunc=>match P.underlying t with|some (.func ..)=>some (.sc (.bool true))|_=>none
 |.eql,.sc .nilFunc,.sc .nilFunc=>match P.underlying t with|some (.func ..)=>some (.sc (.bool true))|_=>none
 |.neq,.sc .nilFunc,.sc .nilFunc=>match P.underlying t with|some (.func ..)=>some (.sc (.bool false))|_=>none
 |_,_,_=>none
def XO(op:UnOp)(x:AV):Option AV:=
 match op,x with
 |.neg,.sc (.int k n)=>some (.sc (.int k (k.wrap (0-n))))|.not,.sc (.bool b)=>some (.sc (.bool !b))|_,_=>none
def dS{F:jf}{ρ:Maps}{u v:Value}(h:ej F ρ (.sc u) v):v=u:=by
 cases h with
 |cell h=>cases h with|p h=>cases h;rfl
def Em(P:Program)(w:World){op:BinOp}{k:IntKind}{a b:Int}{v:Value}(t:TypeId)(h:ou op k a b=some v):(binOp op t (.int k a) (.int k b)).run P w=.ok v w/\vO v=true:=by
 cases op<;>simp only[ou,uv,reduceCtorEq] at h<;>(try(split at h))<;>
  (first
   |(subst h;refine⟨?_,rfl⟩;simp[binOp,Op.intArith,Op.intBits,Op.intCmp,Op.intDiv, *])
   |(cases h;refine⟨?_,rfl⟩;simp[binOp,Op.intArith,Op.intBits,Op.intCmp,Op.intDiv, *])
   |cases h)
def ES(P:Program)(w:World){op:BinOp}{a b:ByteArray}{v:Value}(t:TypeId)(h:HJ op a b=some v):(binOp op t (.string a) (.string b)).run P w=.ok v w/\vO v=true:=by
 cases op<;>simp only[HJ,uv,reduceCtorEq] at h<;>(try(split at h))<;>
  (first
   |(subst h;refine⟨?_,rfl⟩;simp[binOp,Op.stringOp, *])
   |(cases h;refine⟨?_,rfl⟩;simp_all [binOp,Op.stringOp])
   |cases h)
def BU{F:jf}{ρ:Maps}{x:AV}{v:Value}(b:AG x=true)(h:ej F ρ x v):∃a,v=.pointer (some a):=by
 cases h with
 |agg c d=>simp[AG] at b
 |cell h=>
  cases h with
  |gJ h=>exact⟨_,rfl⟩|loc c d e=>simp[AG] at b
  |tB c d e=>simp[AG] at b
  |p h=>cases h<;>first|(simp[AG] at b;done)|exact⟨_,rfl⟩
def wc{P:Program}{t e:TypeId}(h:P.underlying t=some (.pointer e)):P.underlying t=some (.pointer (P.pointee t)):=by
 simp[Program.pointee,h]
def yk{F:jf}{ρ:Maps}{fn:Fn}{f c:List AV}{v:Value}(h:ej F ρ (.func fn f c) v):∃vf vc:List Value,v=.func fn vf.toArray vc.toArray/\eM (eE F ρ.G ρ.n) f vf/\eM (eE F ρ.G ρ.n) c vc:=by
 cases h with
 |cell h=>cases h with
  |p h=>cases h with|func a b=>exact⟨_,_,rfl,a.rL,b.rL⟩
def Ng(P:Program)(w:World){t:TypeId}{ps rs:Array TypeId}{b:Bool}(hu:P.underlying t=some (.func ps rs b))(fn:Fn)(f c:Array Value):(binOp .eql t (.func fn f c) .nilFunc).run P w=.ok (.bool false) w/\(binOp .neq t (.func fn f c) .nilFunc).run P w=.ok (.bool true) w:=by
 have h:∀d,(Op.equalIn (d+1) t (.func fn f c) .nilFunc).run P w=.ok false w:=λd=>by simp[Op.equalIn,run_underlying hu]
 have a:binOp .eql t (.func fn f c) .nilFunc=(do pure (.bool (<-Op.equalIn (9999+1) t (.func fn f c) .nilFunc))):=rfl;have e:binOp .neq t (.func fn f c) .nilFunc=(do pure (.bool (!(<-Op.equalIn (9999+1) t (.func fn f c) .nilFunc)))):=rfl;rw[a,e,eS,eS,h 9999];exact⟨rfl,rfl⟩
def Nc(P:Program)(w:World){t:TypeId}{ps rs:Array TypeId}{b:Bool}(hu:P.underlying t=some (.func ps rs b)):(binOp .eql t .nilFunc .nilFunc).run P w=.ok (.bool true) w/\(binOp .neq t .nilFunc .nilFunc).run P w=.ok (.bool false) w:=by
 have h:∀d,(Op.equalIn (d+1) t .nilFunc .nilFunc).run P w=.ok true w:=λd=>by simp[Op.equalIn,run_underlying hu]
 have a:binOp .eql t .nilFunc .nilFunc=(do pure (.bool (<-Op.equalIn (9999+1) t .nilFunc .nilFunc))):=rfl;have c:binOp .neq t .nilFunc .nilFunc=(do pure (.bool (!(<-Op.equalIn (9999+1) t .nilFunc .nilFunc)))):=rfl;rw[a,c,eS,eS,h 9999];exact⟨rfl,rfl⟩
def Hp:Value->Bool
 |.nilIface=>false|.agg _=>false|_=>true
def JA(P:Program)(w:World)(op:BinOp)(t:TypeId)(x y:Operand){u v:Value}(h:Hp u=true):(eqGuard op t x y u v).run P w=.ok () w:=by
 unfold eqGuard
 cases u<;>first|(simp[Hp] at h;done)|(cases op<;>rfl)
def NI(P:Program)(w:World){F:jf}{ρ:Maps}{op:BinOp}{t:TypeId}{x y r:AV}{u v:Value}(h:sU P op t x y=some r)
  (b:ej F ρ x u) (hy:ej F ρ y v):∃z,(binOp op t u v).run P w=.ok z w/\r=.sc z/\vO z=true/\Hp u=true:=by
 unfold sU at h
 split at h
 ·cases dS b;cases dS hy
  split at h
  ·cases h
  ·rename_i c;cases h;exact⟨_,by simp[binOp,Op.shift,c],rfl,rfl,rfl⟩
 ·cases dS b;cases dS hy
  split at h
  ·cases h
  ·rename_i c;cases h;exact⟨_,by simp[binOp,Op.shift,c],rfl,rfl,rfl⟩
 ·cases dS b;cases dS hy
  split at h
  ·rename_i e;subst e;cases hi:ou op _ _ _ with
   |none=>rw[hi] at h;cases h
   |some z=>
    rw[hi] at h;cases h;exact⟨z,(Em P w t hi).1,rfl,(Em P w t hi).2,rfl⟩
  ·cases h
 ·cases dS b;cases dS hy;cases hi:HJ op _ _ with
  |none=>rw[hi] at h;cases h
  |some z=>
   rw[hi] at h;cases h;exact⟨z,(ES P w t hi).1,rfl,(ES P w t hi).2,rfl⟩
 ·cases dS b;cases dS hy
  split at h
  ·rename_i hu;cases h;exact⟨_,run_eql_bool w t _ _ hu,rfl,rfl,rfl⟩
  ·cases h
 ·cases dS b;cases dS hy
  split at h
  ·rename_i hu;cases h;exact⟨_,run_neq_bool w t _ _ hu,rfl,rfl,rfl⟩
  ·cases h
 ·cases dS hy
  split at h
  ·rename_i hu
   split at h
   ·rename_i d;obtain⟨a,rfl⟩:=BU d b;cases h;exact⟨_,run_eql_pointer_nil w t _ (wc hu),th,rfl,rfl⟩
   ·split at h
    ·cases dS b;cases h;exact⟨_,run_eql_pointer_nil w t _ (wc hu),th,rfl,rfl⟩
    ·cases h
  ·cases h
 ·cases dS hy
  split at h
  ·rename_i hu
   split at h
   ·rename_i d;obtain⟨a,rfl⟩:=BU d b;cases h;exact⟨_,run_neq_pointer_nil w t _ (wc hu),th,rfl,rfl⟩
   ·split at h
    ·cases dS b;cases h;exact⟨_,run_neq_pointer_nil w t _ (wc hu),th,rfl,rfl⟩
    ·cases h
  ·cases h
 ·cases dS hy;obtain⟨vf,vc,rfl,_,_⟩:=yk b
  split at h
  ·rename_i hu;cases h;exact⟨.bool false,(Ng P w hu _ _ _).1,rfl,rfl,rfl⟩
  ·cases h
 ·cases dS hy;obtain⟨vf,vc,rfl,_,_⟩:=yk b
  split at h
  ·rename_i hu;cases h;exact⟨.bool true,(Ng P w hu _ _ _).2,rfl,rfl,rfl⟩
  ·cases h
 ·cases dS b;cases dS hy
  split at h
  ·rename_i hu;cases h;exact⟨.bool true,(Nc P w hu).1,rfl,rfl,rfl⟩
  ·cases h
 ·cases dS b;cases dS hy
  split at h
  ·rename_i hu;cases h;exact⟨.bool false,(Nc P w hu).2,rfl,rfl,rfl⟩
  ·cases h
 ·cases h
end Go.jX
namespace Go.jX
open Go
def lY{l:List AV}{sz:Nat}(h:∀x∈l,x.cells.length=sz):(l.flatMap AV.cells).length=l.length*sz:=by
 induction l with
 |nil=>simp|cons x l a=>
  rw[wT,nd,a λy hy=>h y (by simp[hy]),h x th,jK,vF,Of,VZ]
def A6{l:List AV}{sz:Nat}(h:∀x∈l,x.cells.length=sz)(n:Nat):(l.take n).flatMap AV.cells=(l.flatMap AV.cells).take (n*sz):=by
 induction l generalizing n with
 |nil=>simp|cons x l a=>
  cases n with
  |zero=>simp|succ n=>
   have b:=h x th
   rw[List.take_succ_cons,wT,wT,a (λy hy=>h y (by simp[hy])),vF,Of,List.take_append,b,Kw (l:=x.cells) cw,R5]
def wu{l:List AV}{sz:Nat}(h:∀x∈l,x.cells.length=sz)(n:Nat):(l.drop n).flatMap AV.cells=(l.flatMap AV.cells).drop (n*sz):=by
 induction l generalizing n with
 |nil=>simp|cons x l a=>
  cases n with
  |zero=>simp|succ n=>
   have b:=h x th
   rw[List.drop_succ_cons,wT,a (λy hy=>h y (by simp[hy])),vF,Of,O1,b,Ep (as:=x.cells) cw,R5,mw]
def Ci{l:List AV}{sz:Nat}(h:∀x∈l,x.cells.length=sz){i:Nat}{x:AV}(hi:l[i]?=some x):((l.flatMap AV.cells).drop (i*sz)).take sz=x.cells:=by
 have b:=wu h i;have a:i<l.length:=(jL.1 hi).1
 have c:l.drop i=x::l.drop (i+1):=by
  have:=Je a;rw[this]
  congr 1
  exact(jL.1 hi).2
 rw[<-b,c,wT,List.take_append,Kw (by have:=h x (zT hi);omega)];simp[h x (zT hi)]
def jf.has.drop{F:jf}{b o:Nat}{vs:List Value}(h:F.has b o vs)(n:Nat):F.has b (o+n) (vs.drop n):=by
 intro i v a;rw[O6] at a;have:=h _ v a
 rwa [<-GC] at this
def jf.has.take{F:jf}{b o:Nat}{vs:List Value}(h:F.has b o vs)(n:Nat):F.has b o (vs.take n):=by
 intro i v a;rw[DQ] at a
 split at a
 ·exact h i v a
 ·cases a
section
variable{F:jf} {G:Nat->Nat} {n:Nat}
def eT.drop{xs vs}(h:eT F G n xs vs)(k:Nat):eT F G n (xs.drop k) (vs.drop k):=.m6 (h.rL.drop k)
def eT.take{xs vs}(h:eT F G n xs vs)(k:Nat):eT F G n (xs.take k) (vs.take k):=.m6 (h.rL.take k)
def eT.get{xs vs}(h:eT F G n xs vs){i:Nat}{x:AV}(a:xs[i]?=some x):∃v,vs[i]?=some v/\eE F G n x v:=h.rL.get a
def eT.length{xs vs}(h:eT F G n xs vs):xs.length=vs.length:=h.rL.length
def eT.append{xs vs a vs'}(h:eT F G n xs vs)(b:eT F G n a vs'):eT F G n (xs++a) (vs++vs'):=.m6 (h.rL.append b.rL)
end
def AV.yr{x:AV}(h:x.dW=true):x.cells=[x]:=by cases x<;>first|rfl|(simp[AV.dW] at h)
section
variable{P:Program}
def CD{t:TypeId}{b:Bool}{n:Nat}(h:dL P t=some (b,n)):∃d i,P.underlying t=some d/\P.info? t=some i/\i.size=n/\(match d with|.struct _|.array _ _=>true|_=>false)=b:=by
 unfold dL at h
 split at h
 ·rename_i d i a hi;injection h with h;injection h with c e;exact⟨d,i,a,hi,e,c⟩
 ·cases h
def iQ{t:TypeId}{b:Bool}{n:Nat}(h:dL P t=some (b,n))(w:World):(sizeOf t).run P w=.ok n w:=by
 obtain⟨d,i,a,hi,hn,_⟩:=CD h;simp[sizeOf,typeInfo,hi,hn]
def wv{t:TypeId}{b:Bool}{n:Nat}(h:dL P t=some (b,n))(w:World):(isAgg t).run P w=.ok b w:=by
 obtain⟨d,i,a,hi,hn,c⟩:=CD h;subst c;unfold isAgg;rw[eS,run_underlying a];cases d<;>rfl
def xD{t:TypeId}{cs:List AV}{off:Nat}{z:AV}(h:kD P t cs off=some z):(∃k,dL P t=some (true,k)/\off+k<=cs.length/\z=.agg ((cs.drop off).take k))\/(∃k,dL P t=some (false,k)/\cs[off]?=some z):=by
 unfold kD at h
 split at h
 ·split at h
  ·rename_i k a hle;injection h with h;exact .inl ⟨k,a,hle,h.symm⟩
  ·cases h
 ·rename_i k a;exact .inr ⟨k,a,h⟩
 ·cases h
def wO{t:TypeId}{k:Nat}(h:dL P t=some (true,k))(w:World)(a:Addr)(vs:List Value)(b:vs.length=k)
  (c:∀j v,vs[j]?=some v->w.cell? (a.add j)=some v):(loadVar t a).run P w=.ok (.agg vs.toArray) w:=by
 unfold loadVar;rw[eS,wv h];simp only[gH,if_true];rw[eS,iQ h,gH,eS,<-b,run_loadCells_list w a vs c];rfl
def wH{t:TypeId}{k:Nat}(h:dL P t=some (false,k))(w:World)(a:Addr)(v:Value)(b:w.cell? a=some v):(loadVar t a).run P w=.ok v w:=by
 unfold loadVar;rw[eS,wv h];simp[load,Sem.run,b]
end
def qH(P:Program)(t:TypeId)(x:AV)(i:Nat):Option AV:=
 match dA P t i with
 |none=>none|some (off,a)=>
  match dL P a with
  |none=>none|some (_,n)=>
   if n=0 then none else
   match x with
   |.gJ b g o=>some (.gJ b g (o+off))|.de o f=>some (.de o (f+off))|.ji y=>(kD P a y.cells off).map .ji|_=>none
def BD(P:Program)(t:TypeId)(x:AV)(i:Nat):Option AV:=
 match dA P t i,x with
 |some (off,a),.agg cs=>kD P a cs off|_,_=>none
def gl(P:Program)(t:TypeId)(x i:AV):Option AV:=
 match i with
 |.sc (.int _ n)=>
  match P.underlying t,x with
  |some (.slice e),.slice _ l=>
   if 0<=n then
    match l[n.toNat]?,dL P e with
    |some y,some (_,sz)=>if y.cells.length=sz then some (.ji y)else none|_,_=>none
   else none
  |some (.slice e),.tB b g len _=>
   match dL P e with
   |some (_,sz)=>if 0<=n/\n<len then some (.gJ b g (n.toNat*sz))else none|none=>none
  |some (.slice e),.nU b off len _=>
   match dL P e with
   |some (_,sz)=>if 0<=n/\n<len then some (.de b (off+n.toNat*sz))else none|none=>none
  |some (.array len e),.gJ b g o=>
   match dL P e with
   |some (_,sz)=>if 0<=n/\n<len then some (.gJ b g (o+n.toNat*sz))else none|none=>none
  |some (.array len e),.de a o=>
   match dL P e with
   |some (_,sz)=>if 0<=n/\n<len then some (.de a (o+n.toNat*sz))else none|none=>none
  |some (.array len e),.ji y=>
   match dL P e with
   |some (_,sz)=>if 0<=n/\n<len then(kD P e y.cells (n.toNat*sz)).map .ji else none|none=>none
  |_,_=>none
 |_=>none
def EJ(P:Program)(t:TypeId)(x i:AV):Option AV:=
 match i with
 |.sc (.int _ n)=>
  match P.underlying t,x with
  |some .string,.sc (.string s)=>if 0<=n then(s[n.toNat]?).map λb=>.sc (.int .u8 b.toNat)else none|some (.array len e),.agg cs=>
   match dL P e with
   |some (_,sz)=>if 0<=n/\n<len then kD P e cs (n.toNat*sz)else none|none=>none
  |_,_=>none
 |_=>none
section
variable{P:Program} {F:jf} {ρ:Maps}
def AX{cs:List AV}{v:Value}(h:ej F ρ (.agg cs) v):∃vs:List Value,v=.agg vs.toArray/\eM (hO F ρ) cs vs/\∀c∈cs,c.dW=true:=by
 cases h with
 |agg a b=>exact⟨_,rfl,a,b⟩|cell h=>cases h with
  |p h=>cases h with|agg a b=>exact⟨_,rfl,a.rL.mono λ_ _ _ h=>.p h,b⟩
def Li{cs:List AV}{v:Value}(h:ej F ρ (.tuple cs) v):∃vs:List Value,v=.tuple vs.toArray/\eM (eE F ρ.G ρ.n) cs vs:=by
 cases h with
 |cell h=>cases h with
  |p h=>cases h with|tuple a=>exact⟨_,rfl,a.rL⟩
def uK{b g off:Nat}{v:Value}(h:ej F ρ (.gJ b g off) v):v=.pointer (some ⟨ρ.L b g,off,none⟩)/\g<=ρ.lg b:=by
 cases h with
 |cell h=>cases h with
  |p h=>cases h
  |gJ h=>exact⟨rfl,h⟩
def sd{o off:Nat}{v:Value}(h:ej F ρ (.de o off) v):v=.pointer (some ⟨ρ.G o,off,none⟩)/\o<ρ.n:=by
 cases h with
 |cell h=>cases h with
  |p h=>cases h with|de h=>exact⟨rfl,h⟩
def BM{x:AV}{v:Value}(h:ej F ρ (.ji x) v):∃b o vs,v=.pointer (some ⟨b,o,none⟩)/\eT F ρ.G ρ.n x.cells vs/\F.has b o vs/\∀c∈x.cells,c.dW=true:=by
 cases h with
 |cell h=>cases h with
  |p h=>cases h with|ji a d e=>exact⟨_,_,_,rfl,a,d,e⟩
def xQ{b g len cap:Nat}{v:Value}(h:ej F ρ (.tB b g len cap) v):v=.slice (some ⟨ρ.L b g,0,none⟩) len cap/\g<=ρ.lg b/\len<=cap/\cap<=maxLen:=by
 cases h with
 |cell h=>cases h with
  |p h=>cases h
  |tB a c d=>exact⟨rfl,a,c,d⟩
def E6{o off len cap:Nat}{v:Value}(h:ej F ρ (.nU o off len cap) v):v=.slice (some ⟨ρ.G o,off,none⟩) len cap/\o<ρ.n/\len<=cap/\cap<=maxLen:=by
 cases h with
 |cell h=>cases h with
  |p h=>cases h with|nU a b c=>exact⟨rfl,a,b,c⟩
structure Sw (F:jf) (ρ:Maps) (l:List AV) (base:Option Addr) (cap b o sz:Nat) (vs:List Value):Prop where
 cells:eT F ρ.G ρ.n (l.flatMap AV.cells) vs
 has:F.has b o vs
 base:l≠[]->base=some ⟨b,o,none⟩
 sz:∀x∈l,x.cells.length=sz
 pU:∀c∈l.flatMap AV.cells,c.dW=true
 xM:l.length<=cap
 zF:cap<=maxLen
def eE.G_{G:Nat->Nat}{n:Nat}{tag:Tag}{l:List AV}{v:Value}(h:eE F G n (.slice tag l) v):∃base cap b o sz vs,v=.slice base l.length cap/\eT F G n (l.flatMap AV.cells) vs/\F.has b o vs/\(l≠[]->base=some ⟨b,o,none⟩)/\(∀x∈l,x.cells.length=sz)/\(∀c∈l.flatMap AV.cells,c.dW=true)/\l.length<=cap/\cap<=maxLen/\(tag=.ja\/tag=.full/\cap=l.length):=by
 cases h with|slice a d e f g i j k=>exact⟨_,_,_,_,_,_,rfl,a,d,e,f,g,i,j,k⟩
def lq{tag:Tag}{l:List AV}{v:Value}(h:ej F ρ (.slice tag l) v):∃base cap b o sz vs,v=.slice base l.length cap/\Sw F ρ l base cap b o sz vs/\(tag=.full->cap=l.length)/\(∀k g,tag=.loc k g->g<=ρ.ag k/\ql ρ k g l base cap):=by
 cases h with
 |cell h=>cases h with
  |p h=>
   obtain⟨base,cap,b,o,sz,vs,rfl,a,c,d,e,f,i,j,h8⟩:=h.G_;refine⟨base,cap,b,o,sz,vs,rfl,⟨a,c,d,e,f,i,j⟩,?_,?_⟩
   ·rintro rfl;rcases h8 with h8|h8
    ·cases h8
    ·exact h8.2
   ·rintro k g rfl;rcases h8 with h8|h8
    ·cases h8
    ·cases h8.1
  |loc a c d=>
   obtain⟨base,cap,b,o,sz,vs,he,a,m,n,e,f,i,j,h8⟩:=a.G_;injection he with q r s;subst q;subst s;refine⟨_,_,b,o,sz,vs,rfl,⟨a,m,n,e,f,i,j⟩,(by intro h;cases h),?_⟩;rintro k g he;injection he with q r;subst q;subst r;exact⟨c,d⟩
def GM{G:Nat->Nat}{n:Nat}{cs:List AV}{vs:List Value}{b o:Nat}{t:TypeId}{off:Nat}{z:AV}(e:eT F G n cs vs)(f:F.has b o vs)(g:∀c∈cs,c.dW=true)
  (h:kD P t cs off=some z):eE F G n (.ji z) (.pointer (some ⟨b,o+off,none⟩)):=by
 rcases xD h with⟨k,j,hle,rfl⟩|⟨k,j,d⟩
 ·exact .ji ((e.drop off).take k) ((f.drop off).take k) (λc d=>g c (Fq (zy d)))
 ·obtain⟨v,l,m⟩:=e.get d;have a:=g z (zT d);refine .ji (vs:=[v]) (by rw[AV.yr a];exact .cons m .nil) ?_ (by rw[AV.yr a];simpa using a);intro i u hu;cases i with
  |zero=>simp at hu;subst hu;exact f off _ l
  |succ i=>simp at hu
def FE(w:World){t:TypeId}{x r:AV}{u:Value}{i:Nat}(h:qH P t x i=some r)(e:ej F ρ x u):∃v,(Instr.fieldAt t u i).run P w=.ok v w/\ej F ρ r v:=by
 unfold qH at h
 split at h
 ·cases h
 ·rename_i off k c
  split at h
  ·cases h
  ·rename_i agg n l
   split at h
   ·cases h
   ·rename_i hn
    have d:∃fs f,P.underlying t=some (.struct fs)/\fs[i]?=some f/\f.offset=off/\f.type=k:=by
     unfold dA at c
     split at c
     ·rename_i fs hu;cases a:fs[i]?with
      |none=>rw[a] at c;cases c
      |some f=>
       rw[a] at c;simp at c;exact⟨fs,f,hu,a,c.1,c.2⟩
     ·cases c
    obtain⟨fs,f,hu,a,rfl,rfl⟩:=d
    have key:∀b o:Nat,(Instr.fieldAt t (.pointer (some ⟨b,o,none⟩)) i).run P w=.ok (.pointer (some ⟨b,o+f.offset,none⟩)) w:=by
     intro b o;unfold Instr.fieldAt;rw[eS,run_underlying hu,gH];simp only[a,Instr.sureAddr,eS,mC,gH,fieldPlace,iQ l,hn,fG,Addr.add_lit]
    split at h
    ·rename_i b g o;cases h;obtain⟨rfl,hg⟩:=uK e;exact⟨_,key _ _,.cell (.gJ hg)⟩
    ·rename_i o A;cases h;obtain⟨rfl,hg⟩:=sd e;exact⟨_,key _ _,.p (.de hg)⟩
    ·rename_i y;obtain⟨b,o,vs,rfl,m,q,s⟩:=BM e;cases j:kD P f.type y.cells f.offset with
     |none=>rw[j] at h;cases h
     |some z=>
      rw[j] at h;cases h;exact⟨_,key _ _,.p (GM m q s j)⟩
    ·cases h
def zV(w:World){t:TypeId}{cs:List AV}{vs:List Value}{off:Nat}{z:AV}(d:eM (hO F ρ) cs vs)(e:∀c∈cs,c.dW=true)(f:kD P t cs off=some z):∃v,(part t vs.toArray off).run P w=.ok v w/\ej F ρ z v:=by
 rcases xD f with⟨k,a,hle,rfl⟩|⟨k,a,b⟩
 ·refine⟨.agg ((vs.drop off).take k).toArray,?_,.agg ((d.drop off).take k) (λc b=>e c (Fq (zy b)))⟩;unfold part;rw[eS,wv a];simp only[gH,if_true,eS,iQ a,mC]
  congr 3
  simp[List.drop_take]
 ·obtain⟨v,g,h⟩:=d.get b;refine⟨v,?_,.cell h⟩;unfold part;rw[eS,wv a];simp[g]
def NJ(w:World){t:TypeId}{x r:AV}{u:Value}{i:Nat}(h:BD P t x i=some r)(d:ej F ρ x u):∃v,(Instr.field t u i).run P w=.ok v w/\ej F ρ r v:=by
 unfold BD at h
 split at h
 ·rename_i off e cs b;obtain⟨vs,rfl,g,j⟩:=AX d
  have c:∃fs f,P.underlying t=some (.struct fs)/\fs[i]?=some f/\f.offset=off/\f.type=e:=by
   unfold dA at b
   split at b
   ·rename_i fs hu;cases a:fs[i]?with
    |none=>rw[a] at b;cases b
    |some f=>
     rw[a] at b;simp at b;exact⟨fs,f,hu,a,b.1,b.2⟩
   ·cases b
  obtain⟨fs,f,hu,a,rfl,rfl⟩:=c;obtain⟨v,k,l⟩:=zV w g j h;refine⟨v,?_,l⟩;unfold Instr.field;rw[eS,run_underlying hu,gH];simp only[a,asAgg,eS,mC,gH,k]
 ·cases h
def FN(w:World){t:TypeId}{x i r:AV}{u j:Value}(h:gl P t x i=some r)(m:ej F ρ x u)(hi:ej F ρ i j):∃v,(Instr.indexAt t u j).run P w=.ok v w/\ej F ρ r v:=by
 unfold gl at h
 split at h
 ·rename_i k n;cases dS hi
  split at h
  ·rename_i e tag l hu
   split at h
   ·rename_i hn
    split at h
    ·rename_i y agg sz hy a
     split at h
     ·rename_i s;cases h;obtain⟨base,cap,b,o,d,vs,rfl,hs,_,_⟩:=lq m;have A:n.toNat<l.length:=(jL.1 hy).1
      have B:l≠[]:=by rintro rfl;simp at A
      have f:=zT hy
      have q:d=sz:=by rw[<-hs.sz y f,s]
      subst q;rw[hs.base B];refine⟨.pointer (some ⟨b,o+n.toNat*d,none⟩),?_,.p (.ji (vs:=(vs.drop (n.toNat*d)).take d) ?_ ?_ ?_)⟩
      ·unfold Instr.indexAt;simp only[asIntOf,eS,mC,gH,run_underlying hu];rw[bX ⟨hn,cw⟩];simp only[eS,mC,gH,iQ a,Addr.add_lit]
      ·rw[<-Ci hs.sz hy];exact(hs.cells.drop _).take _
      ·exact(hs.has.drop _).take _
      ·intro c D;exact hs.pU c (S6.2 ⟨y,f,D⟩)
     ·cases h
    ·cases h
   ·cases h
  ·rename_i e b g len cap hu
   split at h
   ·rename_i agg sz a
    split at h
    ·rename_i hn;cases h;obtain⟨rfl,hg,_,_⟩:=xQ m;refine⟨.pointer (some ⟨ρ.L b g,n.toNat*sz,none⟩),?_,.cell (.gJ hg)⟩;unfold Instr.indexAt;simp only[asIntOf,eS,mC,gH,run_underlying hu];rw[bX ⟨hn.1,cw⟩];simp only[eS,mC,gH,iQ a,Addr.add_lit,sA]
    ·cases h
   ·cases h
  ·rename_i e b off len cap hu
   split at h
   ·rename_i agg sz a
    split at h
    ·rename_i hn;cases h;obtain⟨rfl,hg,_,_⟩:=E6 m;refine⟨.pointer (some ⟨ρ.G b,off+n.toNat*sz,none⟩),?_,.p (.de hg)⟩;unfold Instr.indexAt;simp only[asIntOf,eS,mC,gH,run_underlying hu];rw[bX ⟨hn.1,cw⟩];simp only[eS,mC,gH,iQ a,Addr.add_lit]
    ·cases h
   ·cases h
  ·rename_i len e b g o hu
   split at h
   ·rename_i agg sz a
    split at h
    ·rename_i hn;cases h;obtain⟨rfl,hg⟩:=uK m;refine⟨.pointer (some ⟨ρ.L b g,o+n.toNat*sz,none⟩),?_,.cell (.gJ hg)⟩;unfold Instr.indexAt;simp only[asIntOf,Instr.sureAddr,eS,mC,gH,run_underlying hu];rw[bX hn];simp only[eS,mC,gH,iQ a,Addr.add_lit]
    ·cases h
   ·cases h
  ·rename_i len e E o hu
   split at h
   ·rename_i agg sz a
    split at h
    ·rename_i hn;cases h;obtain⟨rfl,hg⟩:=sd m;refine⟨.pointer (some ⟨ρ.G E,o+n.toNat*sz,none⟩),?_,.p (.de hg)⟩;unfold Instr.indexAt;simp only[asIntOf,Instr.sureAddr,eS,mC,gH,run_underlying hu];rw[bX hn];simp only[eS,mC,gH,iQ a,Addr.add_lit]
    ·cases h
   ·cases h
  ·rename_i len e y hu
   split at h
   ·rename_i agg sz a
    split at h
    ·rename_i hn;obtain⟨b,o,vs,rfl,H,I,J⟩:=BM m;cases C:kD P e y.cells (n.toNat*sz)with
     |none=>rw[C] at h;cases h
     |some z=>
      rw[C] at h;cases h;refine⟨.pointer (some ⟨b,o+n.toNat*sz,none⟩),?_,.p (GM H I J C)⟩;unfold Instr.indexAt;simp only[asIntOf,Instr.sureAddr,eS,mC,gH,run_underlying hu];rw[bX hn];simp only[eS,mC,gH,iQ a,Addr.add_lit]
    ·cases h
   ·cases h
  ·cases h
 ·cases h
def OX(w:World){t:TypeId}{x i r:AV}{u j:Value}(h:EJ P t x i=some r)(c:ej F ρ x u)(hi:ej F ρ i j):∃v,(Instr.index t u j).run P w=.ok v w/\ej F ρ r v:=by
 unfold EJ at h
 split at h
 ·rename_i k n;cases dS hi
  split at h
  ·rename_i s hu;cases dS c
   split at h
   ·rename_i hn;cases a:s[n.toNat]?with
    |none=>rw[a] at h;cases h
    |some b=>
     rw[a] at h;cases h;refine⟨.int .u8 b.toNat,?_,.p (.sc rfl)⟩;unfold Instr.index;simp[asIntOf,run_underlying hu,hn,a]
   ·cases h
  ·rename_i len e cs hu
   split at h
   ·rename_i agg sz d
    split at h
    ·rename_i hn;obtain⟨vs,rfl,f,g⟩:=AX c;obtain⟨v,l,m⟩:=zV w f g h;refine⟨v,?_,m⟩;unfold Instr.index;simp only[asIntOf,eS,mC,gH,run_underlying hu];rw[bX hn];simp only[eS,iQ d,gH,l]
    ·cases h
   ·cases h
  ·cases h
 ·cases h
end
end Go.jX
