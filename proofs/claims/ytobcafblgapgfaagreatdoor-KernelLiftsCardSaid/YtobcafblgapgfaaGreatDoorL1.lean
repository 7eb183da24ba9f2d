/- Part of the proof of KernelLifts, KernelPuts, KernelCuts: layer. -/
import Derived.Orders
import Derived.Below
import Derived.Laws.AppendOwn
import Derived.Laws.Cells
import Derived.Laws.CopyRow
import Derived.Laws.Small
import Derived.Laws.Pointers
import Derived.WalkSpells
import Derived.Test.YtobcafblgapgfaaGreatDoorB1
set_option linter.all false
namespace Go.tq
open Go
inductive Tag where
 |pw|full|loc (k g:Nat)
inductive AV where
 |undef|sc (v:Value)|tB (x:AV)|mD (b g off:Nat)|gS (o off:Nat)|slice (tag:Tag) (l:List AV)|agg (cs:List AV)|tuple (vs:List AV)|func (fn:Fn) (first cap:List AV)
 |iface (t:TypeId) (x:AV)|FZ (b g len cap:Nat)|vu (o:Nat)|Dd (ks:List Value) (xs:List AV)|ue (o since:Nat) (seen:List Nat)|Iv (o off len cap:Nat)
instance:Inhabited AV:=⟨.undef⟩
def AV.cells:AV->List AV
 |.agg cs=>cs|x=>[x]
def AV.k7:AV->Bool
 |.agg _=>false|.tuple _=>false|.Dd _ _=>false|.ue _ _ _=>false|_=>true
def J_:Value->Bool
 |.bool _=>true|.int _ _=>true|.float _ _=>true|.string _=>true|.pointer none=>true|.map none=>true|.nilFunc=>true|.nilIface=>true|_=>false
inductive lY {α β:Type} (R:α->β->Prop):List α->List β->Prop
 |nil:lY R [] []|cons {a b as bs}:R a b->lY R as bs->lY R (a::as) (b::bs)
def lY.length{α β:Type}{R:α->β->Prop}{as:List α}{bs:List β}(h:lY R as bs):as.length=bs.length:=by
 induction h with
 |nil=>rfl|cons _ _ a=>simp[a]
theorem lY.mono{α β:Type}{R S:α->β->Prop}{as:List α}{bs:List β}(h:lY R as bs)(hs:∀a b,a∈as->R a b->S a b):lY S as bs:=by
 induction h with
 |nil=>exact .nil|cons c _ d=>exact .cons (hs _ _ aae c) (d λa b e=>hs a b aav)
def lY.append{α β:Type}{R:α->β->Prop}{as a:List α}{bs b:List β}(h:lY R as bs)(c:lY R a b):lY R (as++a) (bs++b):=by
 induction h with
 |nil=>exact c|cons d _ e=>exact .cons d e
def lY.take{α β:Type}{R:α->β->Prop}{as:List α}{bs:List β}(h:lY R as bs)(n:Nat):lY R (as.take n) (bs.take n):=by
 induction h generalizing n with
 |nil=>simp;exact .nil|cons a _ b=>cases n with
  |zero=>exact .nil|succ n=>exact .cons a (b n)
def lY.drop{α β:Type}{R:α->β->Prop}{as:List α}{bs:List β}(h:lY R as bs)(n:Nat):lY R (as.drop n) (bs.drop n):=by
 induction h generalizing n with
 |nil=>simp;exact .nil|cons a b c=>cases n with
  |zero=>exact .cons a b|succ n=>exact c n
def lY.get{α β:Type}{R:α->β->Prop}{as:List α}{bs:List β}(h:lY R as bs){i:Nat}{a:α}(c:as[i]?=some a):∃b,bs[i]?=some b/\R a b:=by
 induction h generalizing i with
 |nil=>simp at c
 |cons d _ e=>cases i with
  |zero=>simp at c;subst c;exact⟨_,rfl,d⟩
  |succ i=>simp at c;simpa using e c
def lY.mem{α β:Type}{R:α->β->Prop}{as:List α}{bs:List β}(h:lY R as bs){b:β}(hb:b∈bs):∃a∈as,R a b:=by
 induction h with
 |nil=>simp at hb
 |cons c _ d=>
  rcases gT.1 hb with rfl|hb
  ·exact⟨_,aae,c⟩
  ·obtain⟨a,e,f⟩:=d hb;exact⟨a,aav,f⟩
def lY.G1{α α' β:Type}{R:α->β->Prop}{S:α'->β->Prop}{as:List α}{bs:List β}(f:α->α')(h:lY R as bs)(hs:∀a b,a∈as->R a b->S (f a) b):lY S (as.map f) bs:=by
 induction h with
 |nil=>exact .nil|cons c _ d=>exact .cons (hs _ _ aae c) (d λa b e=>hs a b aav)
abbrev rv:=Nat->Nat->Option Value
def rv.has(F:rv)(b o:Nat)(vs:List Value):Prop:=∀i v,vs[i]?=some v->F b (o+i)=some v
mutual
inductive k5 (F:rv) (G:Nat->Nat) (n:Nat):AV->Value->Prop
 |undef {v}:v.oneCell'=true->k5 F G n .undef v|sc {v}:J_ v=true->k5 F G n (.sc v) v|tB {x b o vs}:kR F G n x.cells vs->F.has b o vs->(∀c∈x.cells,c.k7=true)->k5 F G n (.tB x) (.pointer (some ⟨b,o,none⟩))|gS {o off}:o<n->k5 F G n (.gS o off) (.pointer (some ⟨G o,off,none⟩))|vu {o}:o<n->k5 F G n (.vu o) (.map (some (G o)))|Iv {o off len cap}:o<n->len<=cap->cap<=maxLen->k5 F G n (.Iv o off len cap) (.slice (some ⟨G o,off,none⟩) len cap)|slice {tag l vs b o base cap sz}:kR F G n (l.flatMap AV.cells) vs->F.has b o vs->(l≠[]->base=some ⟨b,o,none⟩)->(∀x∈l,x.cells.length=sz)->(∀c∈l.flatMap AV.cells,c.k7=true)->l.length<=cap->cap<=maxLen->tag=.pw\/tag=.full/\cap=l.length->k5 F G n (.slice tag l) (.slice base l.length cap)|agg {cs vs}:kR F G n cs vs->(∀c∈cs,c.k7=true)->k5 F G n (.agg cs) (.agg vs.toArray)|tuple {cs vs}:kR F G n cs vs->k5 F G n (.tuple cs) (.tuple vs.toArray)|func {fn f c vf vc}:kR F G n f vf->kR F G n c vc->k5 F G n (.func fn f c) (.func fn vf.toArray vc.toArray)|iface {t x v}:k5 F G n x v->k5 F G n (.iface t x) (.iface t v)
inductive kR (F:rv) (G:Nat->Nat) (n:Nat):List AV->List Value->Prop
 |nil:kR F G n [] []|cons {x v xs vs}:k5 F G n x v->kR F G n xs vs->kR F G n (x::xs) (v::vs)
end
section
variable{F F':rv} {G G':Nat->Nat} {n n':Nat}
def kR.DL{xs vs}(h:kR F G n xs vs):lY (k5 F G n) xs vs:=by
 induction xs generalizing vs with
 |nil=>cases h;exact .nil
 |cons x xs a=>cases h with|cons b c=>exact .cons b (a c)
def kR.xU{xs vs}(h:lY (k5 F G n) xs vs):kR F G n xs vs:=by
 induction h with
 |nil=>exact .nil|cons a _ b=>exact .cons a b
structure M4 (F F':rv) (G G':Nat->Nat) (n n':Nat):Prop where
 mF:∀b o v,F b o=some v->F' b o=some v
 mn:n<=n'
 mG:∀o,o<n->G' o=G o
def M4.refl:M4 F F G G n n:=⟨λ_ _ _ h=>h,jM _,λ_ _=>rfl⟩
def rv.has.grow{b o vs}(h:F.has b o vs)(hg:M4 F F' G G' n n'):F'.has b o vs:=λi v a=>hg.mF _ _ _ (h i v a)
mutual
def k5.grow(hg:M4 F F' G G' n n'):∀{x v},k5 F G n x v->k5 F' G' n' x v
 |_,_,.undef h=>.undef h|_,_,.sc h=>.sc h|_,_,.tB a b c=>.tB (a.grow hg) (b.grow hg) c|_,_,.gS (o:=o) (off:=off) h=>by
  rw[<-hg.mG o h];exact .gS (Tl h hg.mn)
 |_,_,.vu (o:=o) h=>by
  rw[<-hg.mG o h];exact .vu (Tl h hg.mn)
 |_,_,.Iv (o:=o) h b c=>by
  rw[<-hg.mG o h];exact .Iv (Tl h hg.mn) b c
 |_,_,.slice a b c d e f g i=>.slice (a.grow hg) (b.grow hg) c d e f g i|_,_,.agg a b=>.agg (a.grow hg) b|_,_,.tuple a=>.tuple (a.grow hg)|_,_,.func a b=>.func (a.grow hg) (b.grow hg)|_,_,.iface a=>.iface (a.grow hg)
def kR.grow(hg:M4 F F' G G' n n'):∀{xs vs},kR F G n xs vs->kR F' G' n' xs vs
 |_,_,.nil=>.nil|_,_,.cons a b=>.cons (a.grow hg) (b.grow hg)
end
def k5.Su{x v}(h:k5 F G n x v)(a:x.k7=true):v.oneCell'=true:=by
 cases h with
 |undef h=>exact h|sc h=>revert h;cases v<;>simp[J_,Value.oneCell']
 |agg b c=>simp[AV.k7] at a
 |tuple b=>simp[AV.k7] at a
 |_=>rfl
theorem k5.cells{x v}(h:k5 F G n x v)(d:∀vs,x≠ .tuple vs):kR F G n x.cells v.cells.toList:=by
 cases h with
 |undef h=>cases v<;>first|exact .cons (.undef h) .nil|(simp[Value.oneCell'] at h;done)
 |sc h=>cases v<;>first|exact .cons (.sc h) .nil|(simp[J_] at h;done)
 |tB a b c=>exact .cons (.tB a b c) .nil|gS a=>exact .cons (.gS a) .nil|vu a=>exact .cons (.vu a) .nil|Iv a b c=>exact .cons (.Iv a b c) .nil|slice a b c e f g i j=>exact .cons (.slice a b c e f g i j) .nil|agg a b=>exact a|tuple a=>exact absurd rfl (d _)|func a b=>exact .cons (.func a b) .nil|iface a=>exact .cons (.iface a) .nil
end
structure Maps where
 G:Nat->Nat
 n:Nat
 L:Nat->Nat->Nat
 lg:Nat->Nat
 A:Nat->Nat->Option (Nat×Nat×Nat)
 ag:Nat->Nat
def Di(ρ:Maps)(k g:Nat)(l:List AV)(base:Option Addr)(cap:Nat):Prop:=
 match ρ.A k g with
 |none=>cap=l.length|some (b,c,sz)=>base=some ⟨b,0,none⟩/\cap=c/\∀x∈l,x.cells.length=sz
inductive pj (F:rv) (ρ:Maps):AV->Value->Prop
 |p {x v}:k5 F ρ.G ρ.n x v->pj F ρ x v|mD {b g off}:g<=ρ.lg b->pj F ρ (.mD b g off) (.pointer (some ⟨ρ.L b g,off,none⟩))|loc {k g l base cap}:k5 F ρ.G ρ.n (.slice .pw l) (.slice base l.length cap)->g<=ρ.ag k->Di ρ k g l base cap->pj F ρ (.slice (.loc k g) l) (.slice base l.length cap)|FZ {b g len cap}:g<=ρ.lg b->len<=cap->cap<=maxLen->pj F ρ (.FZ b g len cap) (.slice (some ⟨ρ.L b g,0,none⟩) len cap)
inductive kI (F:rv) (ρ:Maps):AV->Value->Prop
 |cell {x v}:pj F ρ x v->kI F ρ x v|agg {cs vs}:lY (pj F ρ) cs vs->(∀c∈cs,c.k7=true)->kI F ρ (.agg cs) (.agg vs.toArray)
structure Dr (F F':rv) (ρ ρ':Maps):Prop where
 g:M4 F F' ρ.G ρ'.G ρ.n ρ'.n
 lg:∀b,ρ.lg b<=ρ'.lg b
 L:∀b g,g<=ρ.lg b->ρ'.L b g=ρ.L b g
 ag:∀k,ρ.ag k<=ρ'.ag k
 A:∀k g,g<=ρ.ag k->ρ'.A k g=ρ.A k g
section
variable{F F':rv} {ρ ρ':Maps}
def pj.grow(hg:Dr F F' ρ ρ'){x v}(h:pj F ρ x v):pj F' ρ' x v:=by
 cases h with
 |p h=>exact .p (h.grow hg.g)|mD h=>
  rename_i b g off;rw[<-hg.L b g h];exact .mD (DJ h (hg.lg b))
 |loc d a c=>
  refine .loc (d.grow hg.g) (DJ a (hg.ag _)) ?_;unfold Di;rw[hg.A _ _ a];exact c
 |FZ h a c=>
  rename_i b g len cap;rw[<-hg.L b g h];exact .FZ (DJ h (hg.lg b)) a c
def kI.grow(hg:Dr F F' ρ ρ'){x v}(h:kI F ρ x v):kI F' ρ' x v:=by
 cases h with
 |cell h=>exact .cell (h.grow hg)|agg a b=>exact .agg (a.mono λ_ _ _ h=>h.grow hg) b
def kI.p{x v}(h:k5 F ρ.G ρ.n x v):kI F ρ x v:=.cell (.p h)
end
def AV.ra:AV->AV
 |.slice _ l=>.slice .pw l|.mD _ _ _=>.undef|.FZ _ _ _ _=>.undef|x=>x
def AV.norm:AV->AV
 |.agg cs=>.agg (cs.map AV.ra)|x=>x.ra
section
variable{F F':rv} {ρ ρ':Maps}
def k5.pw{G:Nat->Nat}{n:Nat}{tag l v}(h:k5 F G n (.slice tag l) v):k5 F G n (.slice .pw l) v:=by
 cases h with
 |slice a b c d e f g i=>exact .slice a b c d e f g (.inl rfl)
def k5.ra{G:Nat->Nat}{n:Nat}{x v}(h:k5 F G n x v):k5 F G n x.ra v:=by
 cases x with
 |slice tag l=>exact h.pw|mD b g off=>cases h
 |FZ b g len cap=>cases h
 |_=>exact h
def pj.ra{x v}(h:pj F ρ x v):k5 F ρ.G ρ.n x.ra v:=by
 cases h with
 |p h=>exact h.ra|mD h=>exact .undef rfl|loc a b c=>exact a|FZ a b c=>exact .undef rfl
theorem AV.Nd(x:AV):x.ra.k7=x.k7:=by cases x<;>rfl
def kI.norm{x v}(h:kI F ρ x v):k5 F ρ.G ρ.n x.norm v:=by
 have d:∀{cs:List AV} {vs:List Value},lY (pj F ρ) cs vs->(∀c∈cs,c.k7=true)->k5 F ρ.G ρ.n (AV.agg cs).norm (.agg vs.toArray):=by
  intro cs vs e f;refine .agg (kR.xU (e.G1 AV.ra λa b _ h=>h.ra)) ?_;intro c g;obtain⟨a,i,rfl⟩:=nj.1 g;rw[AV.Nd];exact f a i
 cases h with
 |agg e f=>exact d e f|cell h=>
  cases x with
  |agg cs=>
   cases h with
   |p h=>
    cases h with
    |agg e f=>exact d (e.DL.mono λ_ _ _ h=>.p h) f
  |_=>exact h.ra
theorem kI.cells{x v}(h:kI F ρ x v)(d:∀vs,x≠ .tuple vs):lY (pj F ρ) x.cells v.cells.toList:=by
 cases h with
 |agg a b=>exact a|cell h=>
  cases h with
  |p h=>exact(h.cells d).DL.mono λ_ _ _ h=>.p h|mD h=>exact .cons (.mD h) .nil|loc a b c=>exact .cons (.loc a b c) .nil|FZ a b c=>exact .cons (.FZ a b c) .nil
def pj.Su{x v}(h:pj F ρ x v)(a:x.k7=true):v.oneCell'=true:=by
 cases h with
 |p h=>exact h.Su a|mD h=>rfl|loc b c d=>rfl|FZ b c d=>rfl
def kI.F5{x v}(h:kI F ρ x v)(d:∀vs,x≠ .tuple vs):∀c∈x.cells,c.k7=true:=by
 cases h with
 |agg b a=>exact a|cell h=>
  cases h with
  |p h=>
   cases h with
   |agg b a=>exact a|tuple b=>exact absurd rfl (d _)|_=>simp[AV.cells,AV.k7]
  |mD h=>simp[AV.cells,AV.k7]|loc b a e=>simp[AV.cells,AV.k7]|FZ b a e=>simp[AV.cells,AV.k7]
end
end Go.tq
namespace Go.tq
open Go
abbrev dM:=List (List AV)
abbrev fx:=Nat->Option AV
structure Fr where
 env:Nat->AV
 box:Nat->Option (List AV)
 gen:Nat->Nat
 CX:Nat->Option Nat
 gN:Nat->Nat
def kQ{α:Type}(f:Nat->α)(i:Nat)(x:α):Nat->α:=λj=>if j=i then x else f j
def Fr.put(fr:Fr)(d:Option Nat)(x:AV):Fr:=
 match d with
 |some d=>{fr with env:=kQ fr.env d x}|none=>fr
section
variable(P:Program)
def jd(t:TypeId):Option (Bool×Nat):=
 match P.underlying t,P.info? t with
 |some d,some i=>some (match d with|.struct _|.array _ _=>true|_=>false,i.size)
 |_,_=>none
def zeroOf(t:TypeId):Option Value:=(P.info? t).bind (·.zero)
def gE(t i:Nat):Option (Nat×TypeId):=
 match P.underlying t with
 |some (.struct fs)=>(fs[i]?).map λf=>(f.offset,f.type)|_=>none
def To(t:TypeId):Option (Nat×TypeId):=
 match P.underlying t with
 |some (.array n e)=>some (n,e)|_=>none
def tH(t:TypeId)(cs:List AV)(off:Nat):Option AV:=
 match jd P t with
 |some (true,n)=>if off+n<=cs.length then some (.agg ((cs.drop off).take n))else none|some (false,_)=>cs[off]?|none=>none
def BJ(t:TypeId)(x:AV):Bool:=
 match jd P t,x with
 |some (true,n),.agg cs=>cs.length==n|some (false,_),.agg _=>false|some (false,_),.tuple _=>false|some (false,_),.Dd _ _=>false|some (false,_),.ue _ _ _=>false|some (false,_),_=>true|_,_=>false
end
def setCells(cs:List AV)(off:Nat)(new:List AV):List AV:=cs.take off++new++cs.drop (off+new.length)
def zp:Value->AV
 |.slice none 0 0=>.slice .full []|.func fn f c=>if f.size=0/\c.size=0 then .func fn [] [] else .undef|.agg _=>.undef|.tuple _=>.undef|v=>if J_ v then .sc v else .undef
def ofValue:Value->AV
 |.agg cs=>.agg (cs.toList.map zp)|.tuple cs=>.tuple (cs.toList.map zp)|v=>zp v
def JS:Value->Bool
 |.agg cs=>cs.all (·.oneCell')|.tuple cs=>cs.all (·.oneCell')|_=>true
def Ht(v:Value):(zp v).k7=true:=by
 unfold zp
 split<;>first|rfl|(split<;>rfl)
def Na(F:rv)(G:Nat->Nat)(n:Nat)(v:Value)(h:v.oneCell'=true):k5 F G n (zp v) v:=by
 unfold zp
 split
 ·exact .slice (l:=[]) (vs:=[]) (b:=0) (o:=0) (sz:=0) .nil (λ_ _ h=>by simp at h) aae aae aae aae (by simp[maxLen]) (.inr ⟨rfl,rfl⟩)
 ·rename_i fn f c
  split
  ·rename_i hs;obtain⟨a,d⟩:=hs;have e:f=#[]:=aaW a;have g:c=#[]:=aaW d;subst e;subst g;exact .func (vf:=[]) (vc:=[]) .nil .nil
  ·exact .undef rfl
 ·simp[Value.oneCell'] at h
 ·simp[Value.oneCell'] at h
 ·split
  ·exact .sc (by assumption)
  ·exact .undef h
def zJ(F:rv)(G:Nat->Nat)(n:Nat):∀(vs:List Value),(∀v∈vs,v.oneCell'=true)->kR F G n (vs.map zp) vs
 |[],_=>.nil|v::vs,h=>.cons (Na F G n v (h v aae)) (zJ F G n vs λu hu=>h u (by simp[hu]))
def NB{v:Value}(h:v.oneCell'=true):ofValue v=zp v:=by
 cases v<;>first|rfl|(simp[Value.oneCell'] at h)
def Me(F:rv)(G:Nat->Nat)(n:Nat)(v:Value)(h:JS v=true):k5 F G n (ofValue v) v:=by
 cases v with
 |agg cs=>
  have b:∀v∈cs.toList,v.oneCell'=true:=λv d=>by
   have e:cs.all (·.oneCell')=true:=h
   exact QF.1 e v (Ib.1 d)
  exact .agg (vs:=cs.toList) (zJ F G n cs.toList b) (by
   intro c f;obtain⟨a,_,rfl⟩:=nj.1 f
   exact Ht a)
 |tuple cs=>
  have b:∀v∈cs.toList,v.oneCell'=true:=λv d=>by
   have e:cs.all (·.oneCell')=true:=h
   exact QF.1 e v (Ib.1 d)
  exact .tuple (vs:=cs.toList) (zJ F G n cs.toList b)
 |_=>(rw[NB rfl];exact Na F G n _ rfl)
section
variable(T:fx) (fr:Fr)
def ev:Operand->AV
 |.tmp t=>fr.env t|.const v=>ofValue v|.global g=>match T g with|some x=>.tB x|none=>.undef
 |.func f=>.func (.func f) [] []
def oX:Operand->Bool
 |.const v=>JS v|_=>true
end
def B1(F:rv)(ρ:Maps)(fr:Fr)(a:Act):Prop:=∀t,kI F ρ (fr.env t) (a.tmps.getD t undef)
def HJ(T:fx)(F:rv)(ρ:Maps):Prop:=∀g x,T g=some x->k5 F ρ.G ρ.n (.tB x) (.pointer (some ⟨g,0,none⟩))
def kS{T:fx}{fr:Fr}{F:rv}{ρ:Maps}{a:Act}(he:B1 F ρ fr a)(b:HJ T F ρ)(x:Operand)(c:oX x=true):kI F ρ (ev T fr x) (a.eval x):=by
 cases x with
 |tmp t=>exact he t|const v=>exact .p (Me _ _ _ v c)|global g=>
  show kI F ρ (match T g with|some x=>.tB x|none=>.undef) _;cases h:T g with
  |none=>exact .p (.undef rfl)|some x=>exact .p (b g x h)
 |func f=>exact .p (.func (vf:=[]) (vc:=[]) .nil .nil)
def zt(op:BinOp)(k:IntKind)(a b:Int):Option Value:=
 match op with
 |.add=>some (.int k (k.wrap (a+b)))|.sub=>some (.int k (k.wrap (a-b)))|.mul=>some (.int k (k.wrap (a*b)))|.quo=>if b=0 then none else some (.int k (k.wrap (a.tdiv b)))|.rem=>if b=0 then none else some (.int k (a.tmod b))|.and=>some (.int k (k.wrap (BitVec.ofInt k.bits a&&&BitVec.ofInt k.bits b).toNat))|.or=>some (.int k (k.wrap (BitVec.ofInt k.bits a|||BitVec.ofInt k.bits b).toNat))|.xor=>some (.int k (k.wrap (BitVec.ofInt k.bits a^^^BitVec.ofInt k.bits b).toNat))|.andNot=>some (.int k (k.wrap (BitVec.ofInt k.bits a&&&~~~BitVec.ofInt k.bits b).toNat))|.eql=>some (.bool (a==b))|.neq=>some (.bool (a !=b))|.lss=>some (.bool (a<b))|.leq=>some (.bool (a<=b))|.gtr=>some (.bool (a>b))|.geq=>some (.bool (a>=b))|_=>none
def Sj(op:BinOp)(x y:ByteArray):Option Value:=
 match op with
 |.add=>if((x.size+y.size:Nat):Int)>IntKind.i64.max then none else some (.string (x++y))|.eql=>some (.bool (x.toList==y.toList))|.neq=>some (.bool !(x.toList==y.toList))|.lss=>some (.bool (Op.bytesLess x.toList y.toList))|.leq=>some (.bool (Op.bytesLess x.toList y.toList||x.toList==y.toList))|.gtr=>some (.bool !(Op.bytesLess x.toList y.toList||x.toList==y.toList))|.geq=>some (.bool !(Op.bytesLess x.toList y.toList))|_=>none
def Md:AV->Bool
 |.tB _|.mD _ _ _|.gS _ _=>true|_=>false
def BO(P:Program)(op:BinOp)(t:TypeId)(x y:AV):Option AV:=
 match op,x,y with
 |.shl,.sc (.int k a),.sc (.int _ b)=>if b<0 then none else some (.sc (.int k (k.wrap (a*2^min b.toNat k.bits))))|.shr,.sc (.int k a),.sc (.int _ b)=>if b<0 then none else some (.sc (.int k (a.fdiv (2^min b.toNat k.bits))))|op,.sc (.int k a),.sc (.int k' b)=>if k=k' then(zt op k a b).map .sc else none|op,.sc (.string a),.sc (.string b)=>(Sj op a b).map .sc|.eql,.sc (.bool a),.sc (.bool b)=>match P.underlying t with|some .bool=>some (.sc (.bool (a==b)))|_=>none
 |.neq,.sc (.bool a),.sc (.bool b)=>match P.underlying t with|some .bool=>some (.sc (.bool (!(a==b))))|_=>none
 |.eql,x,.sc (.pointer none)=>match P.underlying t with
  |some (.pointer _)=>if Md x then some (.sc (.bool false))else(match x with|.sc (.pointer none)=>some (.sc (.bool true))|_=>none)
  |_=>none
 |.neq,x,.sc (.pointer none)=>match P.underlying t with
  |some (.pointer _)=>if Md x then some (.sc (.bool true))else(match x with|.sc (.pointer none)=>some (.sc (.bool false))|_=>none)
  |_=>none
 |.eql,.func _ _ _,.sc .nilFunc=>match P.underlying t with|some (.func ..)=>some (.sc (.bool false))|_=>none
 |.neq,.func _ _ _,.sc .nilFunc=>match P.underlying t with|some (.func ..)=>some (.sc (.bool true))|_=>none
 |.eql,.sc .nilFunc,.sc .nilFunc=>match P.underlying t with|some (.func ..)=>some (.sc (.bool true))|_=>none
 |.neq,.sc .nilFunc,.sc .nilFunc=>match P.underlying t with|some (.func ..)=>some (.sc (.bool false))|_=>none
 |_,_,_=>none
def unA(op:UnOp)(x:AV):Option AV:=
 match op,x with
 |.neg,.sc (.int k n)=>some (.sc (.int k (k.wrap (0-n))))|.not,.sc (.bool b)=>some (.sc (.bool !b))|_,_=>none
def jG{F:rv}{ρ:Maps}{u v:Value}(h:kI F ρ (.sc u) v):v=u:=by
 cases h with
 |cell h=>cases h with|p h=>cases h;rfl
def OH(P:Program)(w:World){op:BinOp}{k:IntKind}{a b:Int}{v:Value}(t:TypeId)(h:zt op k a b=some v):(binOp op t (.int k a) (.int k b)).run P w=.ok v w/\J_ v=true:=by
 cases op<;>simp only[zt,zq,reduceCtorEq] at h<;>(try(split at h))<;>
  (first
   |(subst h;refine⟨?_,rfl⟩;simp[binOp,Op.intArith,Op.intBits,Op.intCmp,Op.intDiv, *])
   |(cases h;refine⟨?_,rfl⟩;simp[binOp,Op.intArith,Op.intBits,Op.intCmp,Op.intDiv, *])
   |cases h)
def Pk(P:Program)(w:World){op:BinOp}{a b:ByteArray}{v:Value}(t:TypeId)(h:Sj op a b=some v):(binOp op t (.string a) (.string b)).run P w=.ok v w/\J_ v=true:=by
 cases op<;>simp only[Sj,zq,reduceCtorEq] at h<;>(try(split at h))<;>
  (first
   |(subst h;refine⟨?_,rfl⟩;simp[binOp,Op.stringOp, *])
   |(cases h;refine⟨?_,rfl⟩;simp_all [binOp,Op.stringOp])
   |cases h)
def MZ{F:rv}{ρ:Maps}{x:AV}{v:Value}(b:Md x=true)(h:kI F ρ x v):∃a,v=.pointer (some a):=by
 cases h with
 |agg c d=>simp[Md] at b
 |cell h=>
  cases h with
  |mD h=>exact⟨_,rfl⟩|loc c d e=>simp[Md] at b
  |FZ c d e=>simp[Md] at b
  |p h=>cases h<;>first|(simp[Md] at b;done)|exact⟨_,rfl⟩
def HN{P:Program}{t e:TypeId}(h:P.underlying t=some (.pointer e)):P.underlying t=some (.pointer (P.pointee t)):=by
 simp[Program.pointee,h]
def JV{F:rv}{ρ:Maps}{fn:Fn}{f c:List AV}{v:Value}(h:kI F ρ (.func fn f c) v):∃vf vc:List Value,v=.func fn vf.toArray vc.toArray/\lY (k5 F ρ.G ρ.n) f vf/\lY (k5 F ρ.G ρ.n) c vc:=by
 cases h with
 |cell h=>cases h with
  |p h=>cases h with|func a b=>exact⟨_,_,rfl,a.DL,b.DL⟩
def U2(P:Program)(w:World){t:TypeId}{ps rs:Array TypeId}{b:Bool}(hu:P.underlying t=some (.func ps rs b))(fn:Fn)(f c:Array Value):(binOp .eql t (.func fn f c) .nilFunc).run P w=.ok (.bool false) w/\(binOp .neq t (.func fn f c) .nilFunc).run P w=.ok (.bool true) w:=by
 have h:∀d,(Op.equalIn (d+1) t (.func fn f c) .nilFunc).run P w=.ok false w:=λd=>by simp[Op.equalIn,run_underlying hu]
 have a:binOp .eql t (.func fn f c) .nilFunc=(do pure (.bool (<-Op.equalIn (9999+1) t (.func fn f c) .nilFunc))):=rfl;have e:binOp .neq t (.func fn f c) .nilFunc=(do pure (.bool (!(<-Op.equalIn (9999+1) t (.func fn f c) .nilFunc)))):=rfl;rw[a,e,mb,mb,h 9999];exact⟨rfl,rfl⟩
def U9(P:Program)(w:World){t:TypeId}{ps rs:Array TypeId}{b:Bool}(hu:P.underlying t=some (.func ps rs b)):(binOp .eql t .nilFunc .nilFunc).run P w=.ok (.bool true) w/\(binOp .neq t .nilFunc .nilFunc).run P w=.ok (.bool false) w:=by
 have h:∀d,(Op.equalIn (d+1) t .nilFunc .nilFunc).run P w=.ok true w:=λd=>by simp[Op.equalIn,run_underlying hu]
 have a:binOp .eql t .nilFunc .nilFunc=(do pure (.bool (<-Op.equalIn (9999+1) t .nilFunc .nilFunc))):=rfl;have c:binOp .neq t .nilFunc .nilFunc=(do pure (.bool (!(<-Op.equalIn (9999+1) t .nilFunc .nilFunc)))):=rfl;rw[a,c,mb,mb,h 9999];exact⟨rfl,rfl⟩
def RF:Value->Bool
 |.nilIface=>false|.agg _=>false|_=>true
def S8(P:Program)(w:World)(op:BinOp)(t:TypeId)(x y:Operand){u v:Value}(h:RF u=true):(eqGuard op t x y u v).run P w=.ok () w:=by
 unfold eqGuard
 cases u<;>first|(simp[RF] at h;done)|(cases op<;>rfl)
def Vp(P:Program)(w:World){F:rv}{ρ:Maps}{op:BinOp}{t:TypeId}{x y r:AV}{u v:Value}(h:BO P op t x y=some r)
  (b:kI F ρ x u) (hy:kI F ρ y v):∃z,(binOp op t u v).run P w=.ok z w/\r=.sc z/\J_ z=true/\RF u=true:=by
 unfold BO at h
 split at h
 ·cases jG b;cases jG hy
  split at h
  ·cases h
  ·rename_i c;cases h;exact⟨_,by simp[binOp,Op.shift,c],rfl,rfl,rfl⟩
 ·cases jG b;cases jG hy
  split at h
  ·cases h
  ·rename_i c;cases h;exact⟨_,by simp[binOp,Op.shift,c],rfl,rfl,rfl⟩
 ·cases jG b;cases jG hy
  split at h
  ·rename_i e;subst e;cases hi:zt op _ _ _ with
   |none=>rw[hi] at h;cases h
   |some z=>
    rw[hi] at h;cases h;exact⟨z,(OH P w t hi).1,rfl,(OH P w t hi).2,rfl⟩
  ·cases h
 ·cases jG b;cases jG hy;cases hi:Sj op _ _ with
  |none=>rw[hi] at h;cases h
  |some z=>
   rw[hi] at h;cases h;exact⟨z,(Pk P w t hi).1,rfl,(Pk P w t hi).2,rfl⟩
 ·cases jG b;cases jG hy
  split at h
  ·rename_i hu;cases h;exact⟨_,run_eql_bool w t _ _ hu,rfl,rfl,rfl⟩
  ·cases h
 ·cases jG b;cases jG hy
  split at h
  ·rename_i hu;cases h;exact⟨_,run_neq_bool w t _ _ hu,rfl,rfl,rfl⟩
  ·cases h
 ·cases jG hy
  split at h
  ·rename_i hu
   split at h
   ·rename_i d;obtain⟨a,rfl⟩:=MZ d b;cases h;exact⟨_,run_eql_pointer_nil w t _ (HN hu),aae,rfl,rfl⟩
   ·split at h
    ·cases jG b;cases h;exact⟨_,run_eql_pointer_nil w t _ (HN hu),aae,rfl,rfl⟩
    ·cases h
  ·cases h
 ·cases jG hy
  split at h
  ·rename_i hu
   split at h
   ·rename_i d;obtain⟨a,rfl⟩:=MZ d b;cases h;exact⟨_,run_neq_pointer_nil w t _ (HN hu),aae,rfl,rfl⟩
   ·split at h
    ·cases jG b;cases h;exact⟨_,run_neq_pointer_nil w t _ (HN hu),aae,rfl,rfl⟩
    ·cases h
  ·cases h
 ·cases jG hy;obtain⟨vf,vc,rfl,_,_⟩:=JV b
  split at h
  ·rename_i hu;cases h;exact⟨.bool false,(U2 P w hu _ _ _).1,rfl,rfl,rfl⟩
  ·cases h
 ·cases jG hy;obtain⟨vf,vc,rfl,_,_⟩:=JV b
  split at h
  ·rename_i hu;cases h;exact⟨.bool true,(U2 P w hu _ _ _).2,rfl,rfl,rfl⟩
  ·cases h
 ·cases jG b;cases jG hy
  split at h
  ·rename_i hu;cases h;exact⟨.bool true,(U9 P w hu).1,rfl,rfl,rfl⟩
  ·cases h
 ·cases jG b;cases jG hy
  split at h
  ·rename_i hu;cases h;exact⟨.bool false,(U9 P w hu).2,rfl,rfl,rfl⟩
  ·cases h
 ·cases h
end Go.tq
namespace Go.tq
open Go
def Ax{l:List AV}{sz:Nat}(h:∀x∈l,x.cells.length=sz):(l.flatMap AV.cells).length=l.length*sz:=by
 induction l with
 |nil=>simp|cons x l a=>grind
def Lf{l:List AV}{sz:Nat}(h:∀x∈l,x.cells.length=sz)(n:Nat):(l.take n).flatMap AV.cells=(l.flatMap AV.cells).take (n*sz):=by
 induction l generalizing n with
 |nil=>simp|cons x l a=>
  cases n with
  |zero=>simp|succ n=>
   have b:=h x aae
   rw[List.take_succ_cons,P_,P_,a (λy hy=>h y (by simp[hy])),zy,YE,List.take_append,b,ZV (l:=x.cells) Zb,Vo]
def HG{l:List AV}{sz:Nat}(h:∀x∈l,x.cells.length=sz)(n:Nat):(l.drop n).flatMap AV.cells=(l.flatMap AV.cells).drop (n*sz):=by
 induction l generalizing n with
 |nil=>simp|cons x l a=>
  cases n with
  |zero=>simp|succ n=>
   have b:=h x aae
   rw[List.drop_succ_cons,P_,a (λy hy=>h y (by simp[hy])),zy,YE,aa',b,Od (as:=x.cells) Zb,Vo,k9]
def T6{l:List AV}{sz:Nat}(h:∀x∈l,x.cells.length=sz){i:Nat}{x:AV}(hi:l[i]?=some x):((l.flatMap AV.cells).drop (i*sz)).take sz=x.cells:=by
 have b:=HG h i;have a:i<l.length:=(qR.1 hi).1
 have c:l.drop i=x::l.drop (i+1):=by
  have:=MC a
  grind
 grind
def rv.has.drop{F:rv}{b o:Nat}{vs:List Value}(h:F.has b o vs)(n:Nat):F.has b (o+n) (vs.drop n):=by
 intro i v a;rw[WL] at a;have:=h _ v a
 grind
def rv.has.take{F:rv}{b o:Nat}{vs:List Value}(h:F.has b o vs)(n:Nat):F.has b o (vs.take n):=by
 intro i v a;rw[VG] at a
 split at a
 ·exact h i v a
 ·cases a
section
variable{F:rv} {G:Nat->Nat} {n:Nat}
def kR.drop{xs vs}(h:kR F G n xs vs)(k:Nat):kR F G n (xs.drop k) (vs.drop k):=.xU (h.DL.drop k)
def kR.take{xs vs}(h:kR F G n xs vs)(k:Nat):kR F G n (xs.take k) (vs.take k):=.xU (h.DL.take k)
def kR.get{xs vs}(h:kR F G n xs vs){i:Nat}{x:AV}(a:xs[i]?=some x):∃v,vs[i]?=some v/\k5 F G n x v:=h.DL.get a
def kR.length{xs vs}(h:kR F G n xs vs):xs.length=vs.length:=h.DL.length
def kR.append{xs vs a vs'}(h:kR F G n xs vs)(b:kR F G n a vs'):kR F G n (xs++a) (vs++vs'):=.xU (h.DL.append b.DL)
end
def AV.JU{x:AV}(h:x.k7=true):x.cells=[x]:=by cases x<;>first|rfl|(simp[AV.k7] at h)
section
variable{P:Program}
def M'{t:TypeId}{b:Bool}{n:Nat}(h:jd P t=some (b,n)):∃d i,P.underlying t=some d/\P.info? t=some i/\i.size=n/\(match d with|.struct _|.array _ _=>true|_=>false)=b:=by grind[jd]
def qM{t:TypeId}{b:Bool}{n:Nat}(h:jd P t=some (b,n))(w:World):(sizeOf t).run P w=.ok n w:=by
 obtain⟨d,i,a,hi,hn,_⟩:=M' h;simp[sizeOf,typeInfo,hi,hn]
def Hz{t:TypeId}{b:Bool}{n:Nat}(h:jd P t=some (b,n))(w:World):(isAgg t).run P w=.ok b w:=by
 obtain⟨d,i,a,hi,hn,c⟩:=M' h;subst c;unfold isAgg;rw[mb,run_underlying a];cases d<;>rfl
def ID{t:TypeId}{cs:List AV}{off:Nat}{z:AV}(h:tH P t cs off=some z):(∃k,jd P t=some (true,k)/\off+k<=cs.length/\z=.agg ((cs.drop off).take k))\/(∃k,jd P t=some (false,k)/\cs[off]?=some z):=by grind[tH]
def HY{t:TypeId}{k:Nat}(h:jd P t=some (true,k))(w:World)(a:Addr)(vs:List Value)(b:vs.length=k)
  (c:∀j v,vs[j]?=some v->w.cell? (a.add j)=some v):(loadVar t a).run P w=.ok (.agg vs.toArray) w:=by
 unfold loadVar;rw[mb,Hz h];simp only[qP,if_true];rw[mb,qM h,qP,mb,<-b,run_loadCells_list w a vs c];rfl
def H0{t:TypeId}{k:Nat}(h:jd P t=some (false,k))(w:World)(a:Addr)(v:Value)(b:w.cell? a=some v):(loadVar t a).run P w=.ok v w:=by
 unfold loadVar;rw[mb,Hz h]
 simp_all
end
def Al(P:Program)(t:TypeId)(x:AV)(i:Nat):Option AV:=
 match gE P t i with
 |none=>none|some (off,a)=>
  match jd P a with
  |none=>none|some (_,n)=>
   if n=0 then none else
   match x with
   |.mD b g o=>some (.mD b g (o+off))|.gS o f=>some (.gS o (f+off))|.tB y=>(tH P a y.cells off).map .tB|_=>none
def Kt(P:Program)(t:TypeId)(x:AV)(i:Nat):Option AV:=
 match gE P t i,x with
 |some (off,a),.agg cs=>tH P a cs off|_,_=>none
def jN(P:Program)(t:TypeId)(x i:AV):Option AV:=
 match i with
 |.sc (.int _ n)=>
  match P.underlying t,x with
  |some (.slice e),.slice _ l=>
   if 0<=n then
    match l[n.toNat]?,jd P e with
    |some y,some (_,sz)=>if y.cells.length=sz then some (.tB y)else none|_,_=>none
   else none
  |some (.slice e),.FZ b g len _=>
   match jd P e with
   |some (_,sz)=>if 0<=n/\n<len then some (.mD b g (n.toNat*sz))else none|none=>none
  |some (.slice e),.Iv b off len _=>
   match jd P e with
   |some (_,sz)=>if 0<=n/\n<len then some (.gS b (off+n.toNat*sz))else none|none=>none
  |some (.array len e),.mD b g o=>
   match jd P e with
   |some (_,sz)=>if 0<=n/\n<len then some (.mD b g (o+n.toNat*sz))else none|none=>none
  |some (.array len e),.gS a o=>
   match jd P e with
   |some (_,sz)=>if 0<=n/\n<len then some (.gS a (o+n.toNat*sz))else none|none=>none
  |some (.array len e),.tB y=>
   match jd P e with
   |some (_,sz)=>if 0<=n/\n<len then(tH P e y.cells (n.toNat*sz)).map .tB else none|none=>none
  |_,_=>none
 |_=>none
def Ul(P:Program)(t:TypeId)(x i:AV):Option AV:=
 match i with
 |.sc (.int _ n)=>
  match P.underlying t,x with
  |some .string,.sc (.string s)=>if 0<=n then(s[n.toNat]?).map λb=>.sc (.int .u8 b.toNat)else none|some (.array len e),.agg cs=>
   match jd P e with
   |some (_,sz)=>if 0<=n/\n<len then tH P e cs (n.toNat*sz)else none|none=>none
  |_,_=>none
 |_=>none
section
variable{P:Program} {F:rv} {ρ:Maps}
def LJ{cs:List AV}{v:Value}(h:kI F ρ (.agg cs) v):∃vs:List Value,v=.agg vs.toArray/\lY (pj F ρ) cs vs/\∀c∈cs,c.k7=true:=by
 cases h with
 |agg a b=>grind|cell h=>cases h with
  |p h=>cases h with|agg a b=>exact⟨_,rfl,a.DL.mono λ_ _ _ h=>.p h,b⟩
def UT{cs:List AV}{v:Value}(h:kI F ρ (.tuple cs) v):∃vs:List Value,v=.tuple vs.toArray/\lY (k5 F ρ.G ρ.n) cs vs:=by
 cases h with
 |cell h=>cases h with
  |p h=>cases h with|tuple a=>exact⟨_,rfl,a.DL⟩
def GB{b g off:Nat}{v:Value}(h:kI F ρ (.mD b g off) v):v=.pointer (some ⟨ρ.L b g,off,none⟩)/\g<=ρ.lg b:=by
 cases h with
 |cell h=>cases h with
  |p h=>cases h
  |mD h=>grind
def DO{o off:Nat}{v:Value}(h:kI F ρ (.gS o off) v):v=.pointer (some ⟨ρ.G o,off,none⟩)/\o<ρ.n:=by
 cases h with
 |cell h=>cases h with
  |p h=>cases h with|gS h=>exact⟨rfl,h⟩
def My{x:AV}{v:Value}(h:kI F ρ (.tB x) v):∃b o vs,v=.pointer (some ⟨b,o,none⟩)/\kR F ρ.G ρ.n x.cells vs/\F.has b o vs/\∀c∈x.cells,c.k7=true:=by
 cases h with
 |cell h=>cases h with
  |p h=>cases h with|tB a d e=>exact⟨_,_,_,rfl,a,d,e⟩
def JF{b g len cap:Nat}{v:Value}(h:kI F ρ (.FZ b g len cap) v):v=.slice (some ⟨ρ.L b g,0,none⟩) len cap/\g<=ρ.lg b/\len<=cap/\cap<=maxLen:=by
 cases h with
 |cell h=>cases h with
  |p h=>cases h
  |FZ a c d=>grind
def O1{o off len cap:Nat}{v:Value}(h:kI F ρ (.Iv o off len cap) v):v=.slice (some ⟨ρ.G o,off,none⟩) len cap/\o<ρ.n/\len<=cap/\cap<=maxLen:=by
 cases h with
 |cell h=>cases h with
  |p h=>cases h with|Iv a b c=>exact⟨rfl,a,b,c⟩
structure Yq (F:rv) (ρ:Maps) (l:List AV) (base:Option Addr) (cap b o sz:Nat) (vs:List Value):Prop where
 cells:kR F ρ.G ρ.n (l.flatMap AV.cells) vs
 has:F.has b o vs
 base:l≠[]->base=some ⟨b,o,none⟩
 sz:∀x∈l,x.cells.length=sz
 F5:∀c∈l.flatMap AV.cells,c.k7=true
 Lr:l.length<=cap
 NI:cap<=maxLen
def k5.Q_{G:Nat->Nat}{n:Nat}{tag:Tag}{l:List AV}{v:Value}(h:k5 F G n (.slice tag l) v):∃base cap b o sz vs,v=.slice base l.length cap/\kR F G n (l.flatMap AV.cells) vs/\F.has b o vs/\(l≠[]->base=some ⟨b,o,none⟩)/\(∀x∈l,x.cells.length=sz)/\(∀c∈l.flatMap AV.cells,c.k7=true)/\l.length<=cap/\cap<=maxLen/\(tag=.pw\/tag=.full/\cap=l.length):=by
 cases h with|slice a d e f g i j k=>exact⟨_,_,_,_,_,_,rfl,a,d,e,f,g,i,j,k⟩
def yV{tag:Tag}{l:List AV}{v:Value}(h:kI F ρ (.slice tag l) v):∃base cap b o sz vs,v=.slice base l.length cap/\Yq F ρ l base cap b o sz vs/\(tag=.full->cap=l.length)/\(∀k g,tag=.loc k g->g<=ρ.ag k/\Di ρ k g l base cap):=by
 cases h with
 |cell h=>cases h with
  |p h=>
   obtain⟨base,cap,b,o,sz,vs,rfl,a,m,n,c,d,e,f,q⟩:=h.Q_;refine⟨base,cap,b,o,sz,vs,rfl,⟨a,m,n,c,d,e,f⟩,?_,?_⟩
   all_goals grind
  |loc a m n=>
   obtain⟨base,cap,b,o,sz,vs,he,a,i,j,c,d,e,f,q⟩:=a.Q_;injection he with r t s;subst r;subst s;refine⟨_,_,b,o,sz,vs,rfl,⟨a,i,j,c,d,e,f⟩,(by intro h;cases h),?_⟩
   grind
def Rj{G:Nat->Nat}{n:Nat}{cs:List AV}{vs:List Value}{b o:Nat}{t:TypeId}{off:Nat}{z:AV}(e:kR F G n cs vs)(f:F.has b o vs)(g:∀c∈cs,c.k7=true)
  (h:tH P t cs off=some z):k5 F G n (.tB z) (.pointer (some ⟨b,o+off,none⟩)):=by
 rcases ID h with⟨k,j,hle,rfl⟩|⟨k,j,d⟩
 ·exact .tB ((e.drop off).take k) ((f.drop off).take k) (λc d=>g c (QH (MG d)))
 ·obtain⟨v,l,m⟩:=e.get d;have a:=g z (AY d);refine .tB (vs:=[v]) (by rw[AV.JU a];exact .cons m .nil) ?_ (by rw[AV.JU a];simpa using a);intro i u hu;cases i with
  |zero=>simp at hu;subst hu;exact f off _ l
  |succ i=>simp at hu
def QV(w:World){t:TypeId}{x r:AV}{u:Value}{i:Nat}(h:Al P t x i=some r)(c:kI F ρ x u):∃v,(Instr.fieldAt t u i).run P w=.ok v w/\kI F ρ r v:=by
 unfold Al at h
 split at h
 ·cases h
 ·rename_i off j s
  split at h
  ·cases h
  ·rename_i agg n k
   split at h
   ·cases h
   ·rename_i hn
    have a:∃fs f,P.underlying t=some (.struct fs)/\fs[i]?=some f/\f.offset=off/\f.type=j:=by grind[gE]
    obtain⟨fs,f,hu,d,rfl,rfl⟩:=a
    have key:∀b o:Nat,(Instr.fieldAt t (.pointer (some ⟨b,o,none⟩)) i).run P w=.ok (.pointer (some ⟨b,o+f.offset,none⟩)) w:=by
     intro b o;unfold Instr.fieldAt;rw[mb,run_underlying hu,qP];simp only[d,Instr.sureAddr,mb,yr,qP,fieldPlace,qM k,hn,jm,Addr.add_lit]
    split at h
    ·rename_i b g o;cases h;obtain⟨rfl,hg⟩:=GB c;exact⟨_,key _ _,.cell (.mD hg)⟩
    ·rename_i o f';cases h;obtain⟨rfl,hg⟩:=DO c;exact⟨_,key _ _,.p (.gS hg)⟩
    ·rename_i y;obtain⟨b,o,vs,rfl,l,m,q⟩:=My c;cases e:tH P f.type y.cells f.offset with
     |none=>rw[e] at h;cases h
     |some z=>
      rw[e] at h;cases h;exact⟨_,key _ _,.p (Rj l m q e)⟩
    ·cases h
def Ly(w:World){t:TypeId}{cs:List AV}{vs:List Value}{off:Nat}{z:AV}(d:lY (pj F ρ) cs vs)(e:∀c∈cs,c.k7=true)(f:tH P t cs off=some z):∃v,(part t vs.toArray off).run P w=.ok v w/\kI F ρ z v:=by
 rcases ID f with⟨k,a,hle,rfl⟩|⟨k,a,b⟩
 ·refine⟨.agg ((vs.drop off).take k).toArray,?_,.agg ((d.drop off).take k) (λc b=>e c (QH (MG b)))⟩;unfold part;rw[mb,Hz a];simp only[qP,if_true,mb,qM a,yr]
  grind
 ·obtain⟨v,g,h⟩:=d.get b;refine⟨v,?_,.cell h⟩;unfold part;rw[mb,Hz a];simp[g]
def VJ(w:World){t:TypeId}{x r:AV}{u:Value}{i:Nat}(h:Kt P t x i=some r)(c:kI F ρ x u):∃v,(Instr.field t u i).run P w=.ok v w/\kI F ρ r v:=by
 unfold Kt at h
 split at h
 ·rename_i off d cs l;obtain⟨vs,rfl,e,g⟩:=LJ c
  have a:∃fs f,P.underlying t=some (.struct fs)/\fs[i]?=some f/\f.offset=off/\f.type=d:=by grind[gE]
  obtain⟨fs,f,hu,b,rfl,rfl⟩:=a;obtain⟨v,j,k⟩:=Ly w e g h;refine⟨v,?_,k⟩;unfold Instr.field;rw[mb,run_underlying hu];simp only[b,asAgg,mb,yr,qP,j]
 ·cases h
def QX(w:World){t:TypeId}{x i r:AV}{u j:Value}(h:jN P t x i=some r)(m:kI F ρ x u)(hi:kI F ρ i j):∃v,(Instr.indexAt t u j).run P w=.ok v w/\kI F ρ r v:=by
 unfold jN at h
 split at h
 ·rename_i k n;cases jG hi
  split at h
  ·rename_i e tag l hu
   split at h
   ·rename_i hn
    split at h
    ·rename_i y agg sz hy a
     split at h
     ·rename_i s;cases h;obtain⟨base,cap,b,o,d,vs,rfl,hs,_,_⟩:=yV m;have A:n.toNat<l.length:=(qR.1 hy).1
      have B:l≠[]:=by rintro rfl;simp at A
      have f:=AY hy
      have q:d=sz:=by rw[<-hs.sz y f,s]
      subst q;rw[hs.base B];refine⟨.pointer (some ⟨b,o+n.toNat*d,none⟩),?_,.p (.tB (vs:=(vs.drop (n.toNat*d)).take d) ?_ ?_ ?_)⟩
      ·unfold Instr.indexAt;simp only[asIntOf,mb,yr,qP,run_underlying hu];rw[cL ⟨hn,Zb⟩];simp only[mb,yr,qP,qM a,Addr.add_lit]
      ·rw[<-T6 hs.sz hy];exact(hs.cells.drop _).take _
      ·exact(hs.has.drop _).take _
      ·intro c D;exact hs.F5 c (YD.2 ⟨y,f,D⟩)
     ·cases h
    ·cases h
   ·cases h
  ·rename_i e b g len cap hu
   split at h
   ·rename_i agg sz a
    split at h
    ·rename_i hn;cases h;obtain⟨rfl,hg,_,_⟩:=JF m;refine⟨.pointer (some ⟨ρ.L b g,n.toNat*sz,none⟩),?_,.cell (.mD hg)⟩;unfold Instr.indexAt;simp only[asIntOf,mb,yr,qP,run_underlying hu];rw[cL ⟨hn.1,Zb⟩];simp only[mb,yr,qP,qM a,Addr.add_lit,sZ]
    ·cases h
   ·cases h
  ·rename_i e b off len cap hu
   split at h
   ·rename_i agg sz a
    split at h
    ·rename_i hn;cases h;obtain⟨rfl,hg,_,_⟩:=O1 m;refine⟨.pointer (some ⟨ρ.G b,off+n.toNat*sz,none⟩),?_,.p (.gS hg)⟩;unfold Instr.indexAt;simp only[asIntOf,mb,yr,qP,run_underlying hu];rw[cL ⟨hn.1,Zb⟩];simp only[mb,yr,qP,qM a,Addr.add_lit]
    ·cases h
   ·cases h
  ·rename_i len e b g o hu
   split at h
   ·rename_i agg sz a
    split at h
    ·rename_i hn;cases h;obtain⟨rfl,hg⟩:=GB m;refine⟨.pointer (some ⟨ρ.L b g,o+n.toNat*sz,none⟩),?_,.cell (.mD hg)⟩;unfold Instr.indexAt;simp only[asIntOf,Instr.sureAddr,mb,yr,qP,run_underlying hu];rw[cL hn];simp only[mb,yr,qP,qM a,Addr.add_lit]
    ·cases h
   ·cases h
  ·rename_i len e E o hu
   split at h
   ·rename_i agg sz a
    split at h
    ·rename_i hn;cases h;obtain⟨rfl,hg⟩:=DO m;refine⟨.pointer (some ⟨ρ.G E,o+n.toNat*sz,none⟩),?_,.p (.gS hg)⟩;unfold Instr.indexAt;simp only[asIntOf,Instr.sureAddr,mb,yr,qP,run_underlying hu];rw[cL hn];simp only[mb,yr,qP,qM a,Addr.add_lit]
    ·cases h
   ·cases h
  ·rename_i len e y hu
   split at h
   ·rename_i agg sz a
    split at h
    ·rename_i hn;obtain⟨b,o,vs,rfl,H,I,J⟩:=My m;cases C:tH P e y.cells (n.toNat*sz)with
     |none=>rw[C] at h;cases h
     |some z=>
      rw[C] at h;cases h;refine⟨.pointer (some ⟨b,o+n.toNat*sz,none⟩),?_,.p (Rj H I J C)⟩;unfold Instr.indexAt;simp only[asIntOf,Instr.sureAddr,mb,yr,qP,run_underlying hu];rw[cL hn];simp only[mb,yr,qP,qM a,Addr.add_lit]
    ·cases h
   ·cases h
  ·cases h
 ·cases h
def VI(w:World){t:TypeId}{x i r:AV}{u j:Value}(h:Ul P t x i=some r)(c:kI F ρ x u)(hi:kI F ρ i j):∃v,(Instr.index t u j).run P w=.ok v w/\kI F ρ r v:=by
 unfold Ul at h
 split at h
 ·rename_i k n;cases jG hi
  split at h
  ·rename_i s hu;cases jG c
   split at h
   ·rename_i hn;cases a:s[n.toNat]?with
    |none=>rw[a] at h;cases h
    |some b=>
     rw[a] at h;cases h;refine⟨.int .u8 b.toNat,?_,.p (.sc rfl)⟩;unfold Instr.index;simp[asIntOf,run_underlying hu,hn,a]
   ·cases h
  ·rename_i len e cs hu
   split at h
   ·rename_i agg sz d
    split at h
    ·rename_i hn;obtain⟨vs,rfl,f,g⟩:=LJ c;obtain⟨v,l,m⟩:=Ly w f g h;refine⟨v,?_,m⟩;unfold Instr.index;simp only[asIntOf,mb,yr,qP,run_underlying hu];rw[cL hn];simp only[mb,qM d,qP,l]
    ·cases h
   ·cases h
  ·cases h
 ·cases h
end
end Go.tq
