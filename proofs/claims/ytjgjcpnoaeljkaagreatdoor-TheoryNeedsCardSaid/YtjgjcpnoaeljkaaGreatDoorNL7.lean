/- Part of the proof of TheoryNeeds: layer. -/
import Derived.Test.YtjgjcpnoaeljkaaGreatDoorNL6
set_option linter.all false
namespace Go.kC
open Go
def rootOf(ops:List Oper):Nat->Nat->Option Nat
 |0,_=>none|f+1,t=>
  match ops.find? (λo=>o.dst==some t)with
  |none=>some t|some o=>match o.op with
   |.fieldAddr _ (.tmp y) _=>rootOf ops f y|.indexAddr _ (.tmp y) _=>rootOf ops f y|.nilCheck (.tmp y)=>rootOf ops f y|.move (.tmp y)=>rootOf ops f y|.alloc _=>some t|.box _ _=>some t|_=>none
def Da(ops:List Oper):Operand->Option Nat
 |.tmp t=>rootOf ops (ops.length+1) t|_=>none
def pG(ops:List Oper)(x:Operand)(v:AV):Bool:=
 match v with
 |.gx b _ _=>Da ops x==some b|_=>true
def isG:AV->Bool
 |.eb _ _=>true|_=>false
def isL:AV->Bool
 |.gx _ _ _=>true|_=>false
inductive WL where
 |val|load (r:Option Nat)|alloc (d:Option Nat)|Aa|app|KB (r:Option Nat)
 deriving DecidableEq
def eV(E:List Nat)(ops:List Oper)(o:Oper):WL:=
 match o.op with
 |.load _ x=>.load (Da ops x)|.lookup _ _ _ _=>.load none|.alloc _=>match o.dst with|some d=>if E.contains d then .Aa else .alloc (some d)|none=>.Aa
 |.box _ _=>match o.dst with|some d=>if E.contains d then .Aa else .alloc (some d)|none=>.Aa
 |.store _ x _=>.KB (Da ops x)|.call c=>match c.callee with|.builtin .append=>.app|.builtin _=>.val|_=>.Aa
 |_=>.val
def uZ:WL->WL->Bool
 |.val,_=>true|_,.val=>true|.load _,.load _=>true|.load r,.alloc d=>r !=d|.alloc d,.load r=>r !=d|.load _,.app=>true|.app,.load _=>true|.load _,.Aa=>true|.Aa,.load _=>true|.load r,.KB a=>r !=a|.KB a,.load r=>r !=a|.alloc _,.alloc _=>true|.alloc _,.app=>true|.app,.alloc _=>true|.alloc _,.Aa=>true|.Aa,.alloc _=>true|.app,.Aa=>true|.Aa,.app=>true|_,_=>false
structure Qt where
 all:Bool
 st:Nat->Bool
 cl:Nat->Nat:=λ_=>0
instance:Coe Bool Qt:=⟨λb=>⟨b,λ_=>false,λ_=>0⟩⟩
def Qt.ok(q:Qt):AV->Bool
 |.eb o _=>q.all||q.st o|_=>true
def QK(q:Qt)(H H':cZ):Prop:=(q.all=true->H'=H)/\∀o,q.st o=true->H'[o]?=H[o]?
@[simp] theorem Qt.agy(q:Qt)(o f:Nat):q.ok (.eb o f)=(q.all||q.st o):=rfl
@[simp] theorem Qt.agG(q:Qt)(b g f:Nat):q.ok (.gx b g f)=true:=rfl
@[simp] theorem Qt.agD(q:Qt)(x:AV):q.ok (.lx x)=true:=rfl
@[simp] theorem ahO(a:Bool)(st:Nat->Bool)(cl:Nat->Nat)(H H':cZ):QK ⟨a,st,cl⟩ H H'=((a=true->H'=H)/\∀o,st o=true->H'[o]?=H[o]?):=rfl
theorem QK.refl{q:Qt}{H:cZ}:QK q H H:=⟨λ_=>rfl,λ_ _=>rfl⟩
def ma(P:Program)(T:dt)(E:List Nat)(ops:List Oper)(q:Qt)(soft:Bool)(fr:Fr)(H:cZ)(o:Oper):Option AV:=
 match o.op with
 |.load t x=>if pG ops x (ev T fr x)&&(!soft||q.ok (ev T fr x))then sP P fr H t (ev T fr x)else none|.lookup t x i ok=>if !soft||q.all then p6 P H t (ev T fr x) (ev T fr i) ok else none|.buildSlice t n ps=>if o.dst.any E.contains then none else lZ P t n (ps.toList.map λp=>(p.1,ev T fr p.2))|.makeSlice t l c=>if o.dst.any E.contains then none else nD P t (ev T fr l) (ev T fr c)|.alloc _=>none|.box _ _=>none|.store _ _ _=>none|.call c=>match c.callee with
  |.builtin .append=>none|.builtin _=>vo P T fr c|_=>none
 |_=>wh P T fr o
def lX(P:Program)(T:dt)(b:AV)(args:List AV)(H:cZ)(r:AV)(H':cZ):Prop:=mM P T b args H λc a=>c=r/\a=H'
def fT(P:Program)(T:dt)(E:List Nat)(ops:List Oper)(q:Qt)(soft:Bool)(o:Oper)(K:Fr->cZ->Prop)(fr:Fr)(H:cZ):Prop:=
 match o.op with
 |.alloc t=>match hO P t with
  |some z=>(soft=true->o.dst.any E.contains=false)/\j9 E o.dst z K fr H|none=>False
 |.box _ x=>eo (ev T fr x)=true/\(soft=true->o.dst.any E.contains=false)/\j9 E o.dst (ev T fr x).cells K fr H|.store t x y=>o.dst=none/\pG ops x (ev T fr x)=true/\(soft=true->isL (ev T fr x)=true)/\kQ P t (ev T fr x) (ev T fr y) K fr H|.call c=>match c.callee with
  |.builtin .append=>l9 P T c o.dst K fr H|.builtin _=>match ma P T E ops q soft fr H o with
   |some v=>K (fr.put o.dst v) H|none=>False
  |.value f=>∃r H',lX P T (ev T fr f) (c.args.toList.map λx=>(ev T fr x).norm) H r H'/\(soft=true->QK q H H')/\K (fr.put o.dst r) H'|.invoke _ _=>False
 |_=>match ma P T E ops q soft fr H o with
  |some v=>K (fr.put o.dst v) H|none=>False
section
variable{P:Program} {T:dt} {E:List Nat} {ops:List Oper} {q:Qt} {soft:Bool} {o:Oper} {K K':Fr->cZ->Prop} {fr:Fr} {H:cZ}
theorem MT{dst:Option Nat}{cs:List AV}(a:∀fr H,K fr H->K' fr H)(h:j9 E dst cs K fr H):j9 E dst cs K' fr H:=by
 unfold j9 at*
 grind
theorem MI{t:TypeId}{x v:AV}(a:∀fr H,K fr H->K' fr H)(h:kQ P t x v K fr H):kQ P t x v K' fr H:=by
 unfold kQ at*
 split at h
 all_goals grind
theorem J7{c:Call}{dst:Option Nat}(a:∀fr H,K fr H->K' fr H)(h:l9 P T c dst K fr H):l9 P T c dst K' fr H:=by
 unfold l9 at*
 grind
def nc(P:Program)(T:dt)(E:List Nat)(ops:List Oper)(q:Qt)(soft:Bool)(o:Oper)(fr:Fr)(H:cZ)(fr':Fr)(H':cZ):Prop:=fT P T E ops q soft o (λf h=>f=fr'/\h=H') fr H
theorem PH{dst:Option Nat}{cs:List AV}(h:j9 E dst cs K fr H):∃fr' H',j9 E dst cs (λf h=>f=fr'/\h=H') fr H/\K fr' H':=by
 unfold j9 at*
 grind
theorem P1{t:TypeId}{x v:AV}(h:kQ P t x v K fr H):∃fr' H',kQ P t x v (λf h=>f=fr'/\h=H') fr H/\K fr' H':=by
 unfold kQ at*
 split at h
 all_goals grind
theorem Mh{c:Call}{dst:Option Nat}(h:l9 P T c dst K fr H):∃fr' H',l9 P T c dst (λf h=>f=fr'/\h=H') fr H/\K fr' H':=by
 unfold l9 at*
 grind
def rT(h:fT P T E ops q soft o K fr H):∃fr' H',nc P T E ops q soft o fr H fr' H'/\K fr' H':=by
 unfold nc fT at*
 grind[PH,P1,Mh]
theorem Fz(a:∀fr H,K fr H->K' fr H)(h:fT P T E ops q soft o K fr H):fT P T E ops q soft o K' fr H:=by
 unfold fT at*
 split at h
 all_goals grind[MT,MI,J7]
def ub{fr':Fr}{H':cZ}(h:nc P T E ops q soft o fr H fr' H')(a:K fr' H'):fT P T E ops q soft o K fr H:=
 Fz (λf h ⟨b,c⟩=>by subst b;subst c;exact a) h
def MC(h:fT P T E ops q soft o K fr H):o7 P T E o K fr H:=by
 obtain⟨dst,op,type,pos,after,guard⟩:=o;cases op with
 |alloc t=>grind[fT,o7]|box t x=>
  simp only[fT,o7] at h|-;exact⟨h.1,h.2.2⟩
 |store t x y=>
  simp only[fT,o7] at h|-;exact⟨h.1,h.2.2.2⟩
 |load t x=>grind[fT,o7,ma]|buildSlice t n ps=>
  simp only[fT,o7,ma] at h|-
  split at h
  .rename_i v a
   split at a
   .cases a
   .rename_i k;rw[a];simp only[xb];rw[cO k];exact h
  .exact h.elim
 |makeSlice t l c=>
  simp only[fT,o7,ma] at h|-
  split at h
  .rename_i v a
   split at a
   .cases a
   .rename_i k;rw[a];simp only[xb];rw[cO k];exact h
  .exact h.elim
 |lookup t x i ok=>grind[fT,o7,ma]|convert s d x=>
  simp only[fT,o7,ma,wh,Nh] at h|-
  grind
 |call c=>
  obtain⟨callee,args,TS⟩:=c;cases callee with
  |builtin b=>cases b<;>simp only[fT,o7,ma] at h|-<;>first|exact .inl (.inl h)|exact h
  |value f=>
   simp only[fT,o7] at h|-;obtain⟨r,H',j,C,u⟩:=h;unfold lX mM at j;unfold mM
   split at j
   .exact j.mono λD w ⟨A,B⟩=>by subst A;subst B;exact u
   .exact j
  |invoke r m=>simp only[fT] at h
 |_=>
  simp only[fT,o7,ma] at h|-
  first
   |exact h
   |(simp only[wh] at h)
end
section
variable{P:Program} {T:dt} {fr fr':Fr}
theorem Ch{x:Operand}(h:∀t,x=.tmp t->fr.env t=fr'.env t):ev T fr x=ev T fr' x:=by
 cases x with
 |tmp t=>exact h t rfl|_=>rfl
theorem SF{xs:List Operand}(h:∀x∈xs,ev T fr x=ev T fr' x):xs.map (ev T fr)=xs.map (ev T fr'):=uy h
def DK{c:Call}(h:∀x∈c.args.toList,ev T fr x=ev T fr' x):vo P T fr c=vo P T fr' c:=by
 unfold vo
 split
 all_goals grind[SF]
def Pp{o:Oper}(h:∀x∈o.op.operands,ev T fr x=ev T fr' x):wh P T fr o=wh P T fr' o:=by
 obtain⟨dst,op,type,pos,after,guard⟩:=o
 have opt:∀(x:Option Operand),(∀y,x=some y->ev T fr y=ev T fr' y)->x.map (ev T fr)=x.map (ev T fr'):=by
  intro x a;cases x with
  |none=>rfl|some y=>simp[a y rfl]
 cases op<;>simp only[Op.operands] at h<;>simp only[wh]
 case move x=>rw[h x aaL]
 case assign x=>rw[h x aaL]
 case pick c x y=>rw[h c aaL,h x aaL,h y aaL]
 case build t ps=>
  have:(ps.toList.map λp=>(p.1,ev T fr p.2))=ps.toList.map λp=>(p.1,ev T fr' p.2):=
   uy λp b=>by rw[h p.2 (by simp;exact⟨p.1,by simpa using b⟩)]
  rw[this]
 case binOp op t x y n=>rw[h x aaL,h y aaL]
 case unOp op t x=>rw[h x aaL]
 case convert s d x=>rw[h x aaL]
 case makeFunc fn f c=>
  have j:(f.toList.map λx=>(ev T fr x).norm)=f.toList.map λx=>(ev T fr' x).norm:=uy λx a=>by rw[h x (by simp[wU.1 a])]
  have k:(c.toList.map λx=>(ev T fr x).norm)=c.toList.map λx=>(ev T fr' x).norm:=uy λx a=>by rw[h x (by simp[wU.1 a])]
  rw[j,k]
 case fieldAddr t x i=>rw[h x aaL]
 case field t x i=>rw[h x aaL]
 case indexAddr t x i=>rw[h x aaL,h i aaL]
 case index t x i=>rw[h x aaL,h i aaL]
 case slice t x lo hi l=>rw[h x aaL,opt lo λy hy=>h y (by simp[hy]),opt hi λy hy=>h y (by simp[hy]),opt l λy hy=>h y (by simp[hy])]
 case extract x i=>rw[h x aaL]
 case nilCheck x=>rw[h x aaL]
 case makeInterface t x=>rw[h x aaL]
 case typeAssert x q t ok=>cases ok<;>simp only[h x aaL]
 case call c=>exact DK λx a=>h x (by simp[Call.operands,wU.1 a])
def NQ{H H':cZ}{t:TypeId}{x:AV}(a:∀b g off,x=.gx b g off->fr.box b=fr'.box b/\fr.gen b=fr'.gen b)(c:∀o off,x=.eb o off->H[o]?=H'[o]?):sP P fr H t x=sP P fr' H' t x:=by
 cases x with
 |gx b g off=>grind[sP]|eb o off=>grind[sP]|_=>rfl
def xl{E:List Nat}{ops:List Oper}{q:Qt}{soft:Bool}{H H':cZ}{o:Oper}(h:∀x∈o.op.operands,ev T fr x=ev T fr' x)
  (d:∀t x,o.op=.load t x->(∀b g off,ev T fr x=.gx b g off->fr.box b=fr'.box b/\fr.gen b=fr'.gen b)/\(∀o off,ev T fr x=.eb o off->H[o]?=H'[o]?)) (f:∀t x i ok,o.op=.lookup t x i ok->H=H'):ma P T E ops q soft fr H o=ma P T E ops q soft fr' H' o:=by
 obtain⟨dst,op,type,pos,after,guard⟩:=o;cases op with
 |load t x=>
  have a:=h x (by simp[Op.operands]);obtain⟨j,k⟩:=d t x rfl;simp only[ma];rw[NQ j k,a]
 |lookup t x i ok=>
  simp only[ma];rw[f t x i ok rfl,h x (by simp[Op.operands]),h i (by simp[Op.operands])]
 |buildSlice t n ps=>
  simp only[ma]
  have:(ps.toList.map λp=>(p.1,ev T fr p.2))=ps.toList.map λp=>(p.1,ev T fr' p.2):=
   uy λp r=>by rw[h p.2 (by simp[Op.operands];exact⟨p.1,by simpa using r⟩)]
  rw[this]
 |makeSlice t l c=>
  simp only[ma];rw[h l (by simp[Op.operands]),h c (by simp[Op.operands])]
 |call c=>
  obtain⟨callee,args,TS⟩:=c
  have s:vo P T fr {callee:=callee,args:=args,argTypes:=TS}=vo P T fr' {callee:=callee,args:=args,argTypes:=TS}:=
   DK λx a=>h x (by simp[Op.operands,Call.operands,wU.1 a])
  cases callee with
  |builtin b=>cases b<;>simp only[ma]<;>first|rfl|exact s
  |_=>rfl
 |alloc t=>rfl|box t x=>rfl|store t x y=>rfl|_=>exact Pp (P:=P) h
end
theorem l_(fr:Fr){d a:Nat}(h:d≠a)(x y:AV):(fr.put (some d) x).put (some a) y=(fr.put (some a) y).put (some d) x:=by
 simp only[Fr.put]
 congr 1
 grind[fO]
section
variable{P:Program} {T:dt} {E:List Nat} {ops:List Oper} {opsA:Array Oper} {q:Qt} {soft:Bool} {o:Oper} {K:Fr->cZ->Prop} {fr:Fr} {H:cZ}
def Jh{d:Nat}{v:AV}(J:d∉o.looksAt opsA)(A:o.dst≠some d)(h:fT P T E ops q soft o K (fr.put (some d) v) H):fT P T E ops q soft o (λf h=>K (f.put (some d) v) h) fr H:=by
 have j:∀x∈o.op.operands,ev T (fr.put (some d) v) x=ev T fr x:=by
  intro x D;refine Ch λt R=>?_;subst R;rw[Fr.sj,cO];rintro he;injection he with he;subst he;exact J (acV _ (afy.2 ⟨.tmp d,by simpa using D,rfl⟩))
 have F:ma P T E ops q soft (fr.put (some d) v) H o=ma P T E ops q soft fr H o:=xl j (λt x _=>⟨λb g off _=>⟨rfl,rfl⟩,λ_ _ _=>rfl⟩) λ_ _ _ _ _=>rfl;clear J;obtain⟨dst,op,type,pos,after,guard⟩:=o;simp only at A
 have a:∀x:AV,((fr.put (some d) v).put dst x)=((fr.put dst x).put (some d) v):=by
  intro x;cases dst with
  |none=>rfl|some u=>exact l_ fr (λe=>A (by rw[e])) v x
 have n:∀cs,j9 E dst cs K (fr.put (some d) v) H->j9 E dst cs (λf h=>K (f.put (some d) v) h) fr H:=by
  intro cs w;unfold j9 at*
  split at w
  .rename_i u;have C:u≠d:=λe=>A (by rw[e])
   have B:∀y:AV,fO (fO fr.env d v) u y=fO (fO fr.env u y) d v:=by
    intro y;have:=congrArg Fr.env (l_ fr C.symm v y);exact this
   split at w
   .rename_i G;rw[cS G];simp only[Fr.put] at w|-;rw[<-B];exact w
   .rename_i G;rw[cO G];simp only[Fr.put] at w|-;rw[<-B];exact w
  .exact w.elim
 cases op with
 |alloc t=>
  simp only[fT] at h|-
  split at h
  .exact⟨h.1,n _ h.2⟩
  .exact h.elim
 |box t x=>
  simp only[fT] at h|-;rw[j x (by simp[Op.operands])] at h;exact⟨h.1,h.2.1,n _ h.2.2⟩
 |store t x y=>
  simp only[fT] at h|-;rw[j x (by simp[Op.operands]),j y (by simp[Op.operands])] at h;refine⟨h.1,h.2.1,h.2.2.1,?_⟩;have S:=h.2.2.2;unfold kQ at*;exact S
 |call c=>
  obtain⟨callee,args,TS⟩:=c;cases callee with
  |builtin b=>
   have i:∀x∈args.toList,ev T (fr.put (some d) v) x=ev T fr x:=λx D=>j x (by simp[Op.operands,Call.operands,wU.1 D])
   cases b<;>first
    |(simp only[fT] at h|-
      rw[F] at h
      split at h
      .rw[<-a];exact h
      .exact h.elim)
    |(simp only[fT] at h|-
      unfold l9 at*
      split at h
      .rename_i u s x t U k L;have C:u≠d:=λe=>A (by rw[e]);simp only at k;rw[i s (by rw[k];simp),i x (by rw[k];simp)] at h
       split at h
       .rename_i e sz tag l M m N O Q;obtain⟨g1,g2,g3,g4,g5⟩:=h;refine⟨g1,g2,g3,g4,?_⟩;have I:ot (fr.put (some d) v) tag l=ot fr tag l:=rfl;rw[I] at g5
        split at g5
        .rename_i w;rw[cS w]
         have:grown (fr.put (some d) v) u tag l m=(grown fr u tag l m).put (some d) v:=by
          have:=congrArg Fr.env (l_ fr C.symm v (.slice (.loc u (fr.eg u+1)) (l++m)));simp only[grown,Fr.put] at this|-;rw[this]
         show K ((grown fr u tag l m).put (some d) v) H;rw[<-this];exact g5
        .rename_i w;rw[cO w];refine⟨g5.1,?_⟩;show K ((fr.put (some u) (.slice .iw l)).put (some d) v) H;rw[<-a];exact g5.2
       .exact h.elim
      .exact h.elim)
  |value f=>
   simp only[fT] at h|-
   have i:(args.toList.map λx=>(ev T (fr.put (some d) v) x).norm)=args.toList.map λx=>(ev T fr x).norm:=
    uy λx D=>by rw[j x (by simp[Op.operands,Call.operands,wU.1 D])]
   rw[i,j f (by simp[Op.operands,Call.operands])] at h;obtain⟨r,H',N,O,Q⟩:=h;refine⟨r,H',N,O,?_⟩;rw[<-a];exact Q
  |invoke r m=>exact h
 |_=>
  simp only[fT] at h|-;rw[F] at h
  split at h
  .rw[<-a];exact h
  .exact h.elim
end
end Go.kC
