/- Part of the proof of SchemeLists: layer. -/
import Derived.Test.YtpgdkkomegalnaaGreatDoorLL6
set_option linter.all false
namespace Go.kY
open Go
def rootOf(ops:List Oper):Nat->Nat->Option Nat
 |0,_=>none|f+1,t=>
  match ops.find? (λo=>o.dst==some t)with
  |none=>some t|some o=>match o.op with
   |.fieldAddr _ (.tmp y) _=>rootOf ops f y|.indexAddr _ (.tmp y) _=>rootOf ops f y|.nilCheck (.tmp y)=>rootOf ops f y|.move (.tmp y)=>rootOf ops f y|.alloc _=>some t|.box _ _=>some t|_=>none
def Gh(ops:List Oper):Operand->Option Nat
 |.tmp t=>rootOf ops (ops.length+1) t|_=>none
def qW(ops:List Oper)(x:Operand)(v:AV):Bool:=
 match v with
 |.h9 b _ _=>Gh ops x==some b|_=>true
def isG:AV->Bool
 |.fb _ _=>true|_=>false
def isL:AV->Bool
 |.h9 _ _ _=>true|_=>false
inductive Yu where
 |val|load (r:Option Nat)|alloc (d:Option Nat)|B8|app|L7 (r:Option Nat)
 deriving DecidableEq
def gd(E:List Nat)(ops:List Oper)(o:Oper):Yu:=
 match o.op with
 |.load _ x=>.load (Gh ops x)|.lookup _ _ _ _=>.load none|.alloc _=>match o.dst with|some d=>if E.contains d then .B8 else .alloc (some d)|none=>.B8
 |.box _ _=>match o.dst with|some d=>if E.contains d then .B8 else .alloc (some d)|none=>.B8
 |.store _ x _=>.L7 (Gh ops x)|.call c=>match c.callee with|.builtin .append=>.app|.builtin _=>.val|_=>.B8
 |_=>.val
def xh:Yu->Yu->Bool
 |.val,_=>true|_,.val=>true|.load _,.load _=>true|.load r,.alloc d=>r !=d|.alloc d,.load r=>r !=d|.load _,.app=>true|.app,.load _=>true|.load _,.B8=>true|.B8,.load _=>true|.load r,.L7 a=>r !=a|.L7 a,.load r=>r !=a|.alloc _,.alloc _=>true|.alloc _,.app=>true|.app,.alloc _=>true|.alloc _,.B8=>true|.B8,.alloc _=>true|.app,.B8=>true|.B8,.app=>true|_,_=>false
structure Qt where
 all:Bool
 st:Nat->Bool
 cl:Nat->Nat:=λ_=>0
instance:Coe Bool Qt:=⟨λb=>⟨b,λ_=>false,λ_=>0⟩⟩
def Qt.ok(q:Qt):AV->Bool
 |.fb o _=>q.all||q.st o|_=>true
def QK(q:Qt)(H H':dY):Prop:=(q.all=true->H'=H)/\∀o,q.st o=true->H'[o]?=H[o]?
@[simp] theorem Qt.ais(q:Qt)(o f:Nat):q.ok (.fb o f)=(q.all||q.st o):=rfl
@[simp] theorem Qt.aif(q:Qt)(b g f:Nat):q.ok (.h9 b g f)=true:=rfl
@[simp] theorem Qt.ait(q:Qt)(x:AV):q.ok (.mj x)=true:=rfl
@[simp] theorem aj1(a:Bool)(st:Nat->Bool)(cl:Nat->Nat)(H H':dY):QK ⟨a,st,cl⟩ H H'=((a=true->H'=H)/\∀o,st o=true->H'[o]?=H[o]?):=rfl
theorem QK.refl{q:Qt}{H:dY}:QK q H H:=⟨λ_=>rfl,λ_ _=>rfl⟩
def nw(P:Program)(T:eN)(E:List Nat)(ops:List Oper)(q:Qt)(soft:Bool)(fr:Fr)(H:dY)(o:Oper):Option AV:=
 match o.op with
 |.load t x=>if qW ops x (ev T fr x)&&(!soft||q.ok (ev T fr x))then vq P fr H t (ev T fr x)else none|.lookup t x i ok=>if !soft||q.all then vD P H t (ev T fr x) (ev T fr i) ok else none|.buildSlice t n a=>if o.dst.any E.contains then none else m4 P t n (a.toList.map λp=>(p.1,ev T fr p.2))|.makeSlice t l c=>zf P t (ev T fr l) (ev T fr c)|.alloc _=>none|.box _ _=>none|.store _ _ _=>none|.call c=>match c.callee with
  |.builtin .append=>none|.builtin _=>ym P T fr c|_=>none
 |_=>Ab P T fr o
def uE(P:Program)(T:eN)(b:AV)(args:List AV)(H:dY)(r:AV)(H':dY):Prop:=oZ P T b args H λc a=>c=r/\a=H'
def hU(P:Program)(T:eN)(E:List Nat)(ops:List Oper)(q:Qt)(soft:Bool)(o:Oper)(K:Fr->dY->Prop)(fr:Fr)(H:dY):Prop:=
 match o.op with
 |.alloc t=>match j6 P t with
  |some z=>(soft=true->o.dst.any E.contains=false)/\kW E o.dst z K fr H|none=>False
 |.box _ x=>fw (ev T fr x)=true/\(soft=true->o.dst.any E.contains=false)/\kW E o.dst (ev T fr x).cells K fr H|.store t x y=>o.dst=none/\qW ops x (ev T fr x)=true/\(soft=true->isL (ev T fr x)=true)/\lP P t (ev T fr x) (ev T fr y) K fr H|.call c=>match c.callee with
  |.builtin .append=>m_ P T c o.dst K fr H|.builtin _=>match nw P T E ops q soft fr H o with
   |some v=>K (fr.put o.dst v) H|none=>False
  |.value f=>∃r H',uE P T (ev T fr f) (c.args.toList.map λx=>(ev T fr x).norm) H r H'/\(soft=true->QK q H H')/\K (fr.put o.dst r) H'|.invoke _ _=>False
 |_=>match nw P T E ops q soft fr H o with
  |some v=>K (fr.put o.dst v) H|none=>False
section
variable{P:Program} {T:eN} {E:List Nat} {ops:List Oper} {q:Qt} {soft:Bool} {o:Oper} {K K':Fr->dY->Prop} {fr:Fr} {H:dY}
theorem NF{dst:Option Nat}{cs:List AV}(a:∀fr H,K fr H->K' fr H)(h:kW E dst cs K fr H):kW E dst cs K' fr H:=by
 unfold kW at*
 grind
theorem Ov{t:TypeId}{x v:AV}(a:∀fr H,K fr H->K' fr H)(h:lP P t x v K fr H):lP P t x v K' fr H:=by
 unfold lP at*
 split at h
 all_goals grind
theorem Mq{c:Call}{dst:Option Nat}(a:∀fr H,K fr H->K' fr H)(h:m_ P T c dst K fr H):m_ P T c dst K' fr H:=by
 unfold m_ at*
 grind
def nW(P:Program)(T:eN)(E:List Nat)(ops:List Oper)(q:Qt)(soft:Bool)(o:Oper)(fr:Fr)(H:dY)(fr':Fr)(H':dY):Prop:=hU P T E ops q soft o (λf h=>f=fr'/\h=H') fr H
theorem QH{dst:Option Nat}{cs:List AV}(h:kW E dst cs K fr H):∃fr' H',kW E dst cs (λf h=>f=fr'/\h=H') fr H/\K fr' H':=by
 unfold kW at*
 grind
theorem P7{t:TypeId}{x v:AV}(h:lP P t x v K fr H):∃fr' H',lP P t x v (λf h=>f=fr'/\h=H') fr H/\K fr' H':=by
 unfold lP at*
 split at h
 all_goals grind
theorem Ny{c:Call}{dst:Option Nat}(h:m_ P T c dst K fr H):∃fr' H',m_ P T c dst (λf h=>f=fr'/\h=H') fr H/\K fr' H':=by
 unfold m_ at*
 grind
def tk(h:hU P T E ops q soft o K fr H):∃fr' H',nW P T E ops q soft o fr H fr' H'/\K fr' H':=by
 unfold nW hU at*
 grind[QH,P7,Ny]
theorem IA(a:∀fr H,K fr H->K' fr H)(h:hU P T E ops q soft o K fr H):hU P T E ops q soft o K' fr H:=by
 unfold hU at*
 split at h
 all_goals grind[NF,Ov,Mq]
def v_{fr':Fr}{H':dY}(h:nW P T E ops q soft o fr H fr' H')(a:K fr' H'):hU P T E ops q soft o K fr H:=
 IA (λf h ⟨b,c⟩=>by subst b;subst c;exact a) h
def Nq(h:hU P T E ops q soft o K fr H):qR P T E o K fr H:=by
 obtain⟨dst,op,type,pos,after,guard⟩:=o;cases op with
 |alloc t=>grind[hU,qR]|box t x=>
  simp only[hU,qR] at h|-;exact⟨h.1,h.2.2⟩
 |store t x y=>
  simp only[hU,qR] at h|-;exact⟨h.1,h.2.2.2⟩
 |load t x=>grind[hU,qR,nw]|buildSlice t n B=>
  simp only[hU,qR,nw] at h|-
  split at h
  ·rename_i v j
   split at j
   ·cases j
   ·rename_i k;rw[j];simp only[IY];rw[dK k];exact h
  ·exact h.elim
 |lookup t x i ok=>grind[hU,qR,nw]|convert s d x=>
  simp only[hU,qR,nw,Ab,XY] at h|-
  grind
 |call c=>
  obtain⟨callee,args,tys⟩:=c;cases callee with
  |builtin b=>cases b<;>simp only[hU,qR,nw] at h|-<;>first|exact .inl (.inl h)|exact h
  |value f=>
   simp only[hU,qR] at h|-;obtain⟨r,H',a,C,l⟩:=h;unfold uE oZ at a;unfold oZ
   split at a
   ·exact a.mono λD u ⟨w,A⟩=>by subst w;subst A;exact l
   ·exact a
  |invoke r m=>simp only[hU] at h
 |_=>
  simp only[hU,qR,nw] at h|-
  first
   |exact h
   |(simp only[Ab] at h)
end
section
variable{P:Program} {T:eN} {fr fr':Fr}
theorem Er{x:Operand}(h:∀t,x=.tmp t->fr.env t=fr'.env t):ev T fr x=ev T fr' x:=by
 cases x with
 |tmp t=>exact h t rfl|_=>rfl
theorem Uq{xs:List Operand}(h:∀x∈xs,ev T fr x=ev T fr' x):xs.map (ev T fr)=xs.map (ev T fr'):=tQ h
def Gx{c:Call}(h:∀x∈c.args.toList,ev T fr x=ev T fr' x):ym P T fr c=ym P T fr' c:=by
 unfold ym
 split
 all_goals grind[Uq]
def PS{o:Oper}(h:∀x∈o.op.operands,ev T fr x=ev T fr' x):Ab P T fr o=Ab P T fr' o:=by
 obtain⟨dst,op,type,pos,after,guard⟩:=o
 have opt:∀(x:Option Operand),(∀y,x=some y->ev T fr y=ev T fr' y)->x.map (ev T fr)=x.map (ev T fr'):=by
  intro x a;cases x with
  |none=>rfl|some y=>simp[a y rfl]
 cases op<;>simp only[Op.operands] at h<;>simp only[Ab]
 case move x=>rw[h x aa2]
 case assign x=>rw[h x aa2]
 case pick c x y=>rw[h c aa2,h x aa2,h y aa2]
 case build t j=>
  have:(j.toList.map λp=>(p.1,ev T fr p.2))=j.toList.map λp=>(p.1,ev T fr' p.2):=
   tQ λp k=>by rw[h p.2 (by simp;exact⟨p.1,by simpa using k⟩)]
  rw[this]
 case binOp op t x y r=>rw[h x aa2,h y aa2]
 case unOp op t x=>rw[h x aa2]
 case convert s d x=>rw[h x aa2]
 case makeFunc fn f c=>
  have l:(f.toList.map λx=>(ev T fr x).norm)=f.toList.map λx=>(ev T fr' x).norm:=tQ λx a=>by rw[h x (by simp[ye.1 a])]
  have n:(c.toList.map λx=>(ev T fr x).norm)=c.toList.map λx=>(ev T fr' x).norm:=tQ λx a=>by rw[h x (by simp[ye.1 a])]
  rw[l,n]
 case fieldAddr t x i=>rw[h x aa2]
 case field t x i=>rw[h x aa2]
 case indexAddr t x i=>rw[h x aa2,h i aa2]
 case index t x i=>rw[h x aa2,h i aa2]
 case slice t x lo hi q=>rw[h x aa2,opt lo λy b=>h y (by simp[b]),opt hi λy b=>h y (by simp[b]),opt q λy b=>h y (by simp[b])]
 case extract x i=>rw[h x aa2]
 case nilCheck x=>rw[h x aa2]
 case makeInterface t x=>rw[h x aa2]
 case typeAssert x u t ok=>cases ok<;>simp only[h x aa2]
 case call c=>exact Gx λx a=>h x (by simp[Call.operands,ye.1 a])
def OL{H H':dY}{t:TypeId}{x:AV}(a:∀b g off,x=.h9 b g off->fr.box b=fr'.box b/\fr.gen b=fr'.gen b)(c:∀o off,x=.fb o off->H[o]?=H'[o]?):vq P fr H t x=vq P fr' H' t x:=by
 cases x with
 |h9 b g off=>grind[vq]|fb o off=>grind[vq]|_=>rfl
def y9{E:List Nat}{ops:List Oper}{q:Qt}{soft:Bool}{H H':dY}{o:Oper}(h:∀x∈o.op.operands,ev T fr x=ev T fr' x)
  (f:∀t x,o.op=.load t x->(∀b g off,ev T fr x=.h9 b g off->fr.box b=fr'.box b/\fr.gen b=fr'.gen b)/\(∀o off,ev T fr x=.fb o off->H[o]?=H'[o]?)) (j:∀t x i ok,o.op=.lookup t x i ok->H=H'):nw P T E ops q soft fr H o=nw P T E ops q soft fr' H' o:=by
 obtain⟨dst,op,type,pos,after,guard⟩:=o;cases op with
 |load t x=>
  have a:=h x (by simp[Op.operands]);obtain⟨k,r⟩:=f t x rfl;simp only[nw];rw[OL k r,a]
 |lookup t x i ok=>
  simp only[nw];rw[j t x i ok rfl,h x (by simp[Op.operands]),h i (by simp[Op.operands])]
 |buildSlice t n d=>
  simp only[nw]
  have:(d.toList.map λp=>(p.1,ev T fr p.2))=d.toList.map λp=>(p.1,ev T fr' p.2):=
   tQ λp s=>by rw[h p.2 (by simp[Op.operands];exact⟨p.1,by simpa using s⟩)]
  rw[this]
 |makeSlice t l c=>
  simp only[nw];rw[h l (by simp[Op.operands]),h c (by simp[Op.operands])]
 |call c=>
  obtain⟨callee,args,tys⟩:=c
  have u:ym P T fr {callee:=callee,args:=args,argTypes:=tys}=ym P T fr' {callee:=callee,args:=args,argTypes:=tys}:=
   Gx λx a=>h x (by simp[Op.operands,Call.operands,ye.1 a])
  cases callee with
  |builtin b=>cases b<;>simp only[nw]<;>first|rfl|exact u
  |_=>rfl
 |alloc t=>rfl|box t x=>rfl|store t x y=>rfl|_=>exact PS (P:=P) h
end
theorem m5(fr:Fr){d a:Nat}(h:d≠a)(x y:AV):(fr.put (some d) x).put (some a) y=(fr.put (some a) y).put (some d) x:=by
 simp only[Fr.put]
 congr 1
 grind[gK]
section
variable{P:Program} {T:eN} {E:List Nat} {ops:List Oper} {opsA:Array Oper} {q:Qt} {soft:Bool} {o:Oper} {K:Fr->dY->Prop} {fr:Fr} {H:dY}
def Lc{d:Nat}{v:AV}(J:d∉o.looksAt opsA)(A:o.dst≠some d)(h:hU P T E ops q soft o K (fr.put (some d) v) H):hU P T E ops q soft o (λf h=>K (f.put (some d) v) h) fr H:=by
 have j:∀x∈o.op.operands,ev T (fr.put (some d) v) x=ev T fr x:=by
  intro x D;refine Er λt R=>?_;subst R;rw[Fr.tV,dK];rintro he;injection he with he;subst he;exact J (ahO _ (ahT.2 ⟨.tmp d,by simpa using D,rfl⟩))
 have F:nw P T E ops q soft (fr.put (some d) v) H o=nw P T E ops q soft fr H o:=y9 j (λt x _=>⟨λb g off _=>⟨rfl,rfl⟩,λ_ _ _=>rfl⟩) λ_ _ _ _ _=>rfl;clear J;obtain⟨dst,op,type,pos,after,guard⟩:=o;simp only at A
 have a:∀x:AV,((fr.put (some d) v).put dst x)=((fr.put dst x).put (some d) v):=by
  intro x;cases dst with
  |none=>rfl|some u=>exact m5 fr (λe=>A (by rw[e])) v x
 have n:∀cs,kW E dst cs K (fr.put (some d) v) H->kW E dst cs (λf h=>K (f.put (some d) v) h) fr H:=by
  intro cs w;unfold kW at*
  split at w
  ·rename_i u;have C:u≠d:=λe=>A (by rw[e])
   have B:∀y:AV,gK (gK fr.env d v) u y=gK (gK fr.env u y) d v:=by
    intro y;have:=congrArg Fr.env (m5 fr C.symm v y);exact this
   split at w
   ·rename_i G;rw[dR G];simp only[Fr.put] at w|-;rw[<-B];exact w
   ·rename_i G;rw[dK G];simp only[Fr.put] at w|-;rw[<-B];exact w
  ·exact w.elim
 cases op with
 |alloc t=>
  simp only[hU] at h|-
  split at h
  ·exact⟨h.1,n _ h.2⟩
  ·exact h.elim
 |box t x=>
  simp only[hU] at h|-;rw[j x (by simp[Op.operands])] at h;exact⟨h.1,h.2.1,n _ h.2.2⟩
 |store t x y=>
  simp only[hU] at h|-;rw[j x (by simp[Op.operands]),j y (by simp[Op.operands])] at h;refine⟨h.1,h.2.1,h.2.2.1,?_⟩;have S:=h.2.2.2;unfold lP at*;exact S
 |call c=>
  obtain⟨callee,args,tys⟩:=c;cases callee with
  |builtin b=>
   have i:∀x∈args.toList,ev T (fr.put (some d) v) x=ev T fr x:=λx D=>j x (by simp[Op.operands,Call.operands,ye.1 D])
   cases b<;>first
    |(simp only[hU] at h|-
      rw[F] at h
      split at h
      ·rw[<-a];exact h
      ·exact h.elim)
    |(simp only[hU] at h|-
      unfold m_ at*
      split at h
      ·rename_i u s x t U k L;have C:u≠d:=λe=>A (by rw[e]);simp only at k;rw[i s (by rw[k];simp),i x (by rw[k];simp)] at h
       split at h
       ·rename_i e sz tag l M m N O Q;obtain⟨g1,g2,g3,g4,g5⟩:=h;refine⟨g1,g2,g3,g4,?_⟩;have I:o5 (fr.put (some d) v) tag l=o5 fr tag l:=rfl;rw[I] at g5
        split at g5
        ·rename_i w;rw[dR w]
         have:grown (fr.put (some d) v) u tag l m=(grown fr u tag l m).put (some d) v:=by
          have:=congrArg Fr.env (m5 fr C.symm v (.slice (.loc u (fr.fi u+1)) (l++m)));simp only[grown,Fr.put] at this|-;rw[this]
         show K ((grown fr u tag l m).put (some d) v) H;rw[<-this];exact g5
        ·rename_i w;rw[dK w];refine⟨g5.1,?_⟩;show K ((fr.put (some u) (.slice .gI l)).put (some d) v) H;rw[<-a];exact g5.2
       ·exact h.elim
      ·exact h.elim)
  |value f=>
   simp only[hU] at h|-
   have i:(args.toList.map λx=>(ev T (fr.put (some d) v) x).norm)=args.toList.map λx=>(ev T fr x).norm:=
    tQ λx D=>by rw[j x (by simp[Op.operands,Call.operands,ye.1 D])]
   rw[i,j f (by simp[Op.operands,Call.operands])] at h;obtain⟨r,H',N,O,Q⟩:=h;refine⟨r,H',N,O,?_⟩;rw[<-a];exact Q
  |invoke r m=>exact h
 |_=>
  simp only[hU] at h|-;rw[F] at h
  split at h
  ·rw[<-a];exact h
  ·exact h.elim
end
end Go.kY
