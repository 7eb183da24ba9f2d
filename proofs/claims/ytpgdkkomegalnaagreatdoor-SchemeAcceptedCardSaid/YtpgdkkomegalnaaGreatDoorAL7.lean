/- Part of the proof of SchemeAccepted: layer. -/
import Derived.Test.YtpgdkkomegalnaaGreatDoorAL6
set_option linter.all false
namespace Go.kY
open Go
def rootOf(ops:List Oper):Nat->Nat->Option Nat
 |0,_=>none|f+1,t=>
  match ops.find? (λo=>o.dst==some t)with
  |none=>some t|some o=>match o.op with
   |.fieldAddr _ (.tmp y) _=>rootOf ops f y|.indexAddr _ (.tmp y) _=>rootOf ops f y|.nilCheck (.tmp y)=>rootOf ops f y|.move (.tmp y)=>rootOf ops f y|.alloc _=>some t|.box _ _=>some t|_=>none
def Fe(ops:List Oper):Operand->Option Nat
 |.tmp t=>rootOf ops (ops.length+1) t|_=>none
def qV(ops:List Oper)(x:Operand)(v:AV):Bool:=
 match v with
 |.hU b _ _=>Fe ops x==some b|_=>true
def isG:AV->Bool
 |.eT _ _=>true|_=>false
def isL:AV->Bool
 |.hU _ _ _=>true|_=>false
inductive WO where
 |val|load (r:Option Nat)|alloc (d:Option Nat)|BC|app|KY (r:Option Nat)
 deriving DecidableEq
def fQ(E:List Nat)(ops:List Oper)(o:Oper):WO:=
 match o.op with
 |.load _ x=>.load (Fe ops x)|.lookup _ _ _ _=>.load none|.alloc _=>match o.dst with|some d=>if E.contains d then .BC else .alloc (some d)|none=>.BC
 |.box _ _=>match o.dst with|some d=>if E.contains d then .BC else .alloc (some d)|none=>.BC
 |.store _ x _=>.KY (Fe ops x)|.call c=>match c.callee with|.builtin .append=>.app|.builtin _=>.val|_=>.BC
 |_=>.val
def wI:WO->WO->Bool
 |.val,_=>true|_,.val=>true|.load _,.load _=>true|.load r,.alloc d=>r !=d|.alloc d,.load r=>r !=d|.load _,.app=>true|.app,.load _=>true|.load _,.BC=>true|.BC,.load _=>true|.load r,.KY a=>r !=a|.KY a,.load r=>r !=a|.alloc _,.alloc _=>true|.alloc _,.app=>true|.app,.alloc _=>true|.alloc _,.BC=>true|.BC,.alloc _=>true|.app,.BC=>true|.BC,.app=>true|_,_=>false
structure Qt where
 all:Bool
 st:Nat->Bool
 cl:Nat->Nat:=λ_=>0
instance:Coe Bool Qt:=⟨λb=>⟨b,λ_=>false,λ_=>0⟩⟩
def Qt.ok(q:Qt):AV->Bool
 |.eT o _=>q.all||q.st o|_=>true
def QK(q:Qt)(H H':dT):Prop:=(q.all=true->H'=H)/\∀o,q.st o=true->H'[o]?=H[o]?
@[simp] theorem Qt.agJ(q:Qt)(o f:Nat):q.ok (.eT o f)=(q.all||q.st o):=rfl
@[simp] theorem Qt.agl(q:Qt)(b g f:Nat):q.ok (.hU b g f)=true:=rfl
@[simp] theorem Qt.agF(q:Qt)(x:AV):q.ok (.mh x)=true:=rfl
@[simp] theorem ah6(a:Bool)(st:Nat->Bool)(cl:Nat->Nat)(H H':dT):QK ⟨a,st,cl⟩ H H'=((a=true->H'=H)/\∀o,st o=true->H'[o]?=H[o]?):=rfl
theorem QK.refl{q:Qt}{H:dT}:QK q H H:=⟨λ_=>rfl,λ_ _=>rfl⟩
def nA(P:Program)(T:eH)(E:List Nat)(ops:List Oper)(q:Qt)(soft:Bool)(fr:Fr)(H:dT)(o:Oper):Option AV:=
 match o.op with
 |.load t x=>if qV ops x (ev T fr x)&&(!soft||q.ok (ev T fr x))then uH P fr H t (ev T fr x)else none|.lookup t x i ok=>if !soft||q.all then u6 P H t (ev T fr x) (ev T fr i) ok else none|.buildSlice t n a=>if o.dst.any E.contains then none else ni P t n (a.toList.map λp=>(p.1,ev T fr p.2))|.makeSlice t l c=>yu P t (ev T fr l) (ev T fr c)|.alloc _=>none|.box _ _=>none|.store _ _ _=>none|.call c=>match c.callee with
  |.builtin .append=>none|.builtin _=>xC P T fr c|_=>none
 |_=>zA P T fr o
def tX(P:Program)(T:eH)(b:AV)(args:List AV)(H:dT)(r:AV)(H':dT):Prop:=oY P T b args H λc a=>c=r/\a=H'
def g_(P:Program)(T:eH)(E:List Nat)(ops:List Oper)(q:Qt)(soft:Bool)(o:Oper)(K:Fr->dT->Prop)(fr:Fr)(H:dT):Prop:=
 match o.op with
 |.alloc t=>match j0 P t with
  |some z=>(soft=true->o.dst.any E.contains=false)/\kT E o.dst z K fr H|none=>False
 |.box _ x=>fj (ev T fr x)=true/\(soft=true->o.dst.any E.contains=false)/\kT E o.dst (ev T fr x).cells K fr H|.store t x y=>o.dst=none/\qV ops x (ev T fr x)=true/\(soft=true->isL (ev T fr x)=true)/\lQ P t (ev T fr x) (ev T fr y) K fr H|.call c=>match c.callee with
  |.builtin .append=>m5 P T c o.dst K fr H|.builtin _=>match nA P T E ops q soft fr H o with
   |some v=>K (fr.put o.dst v) H|none=>False
  |.value f=>∃r H',tX P T (ev T fr f) (c.args.toList.map λx=>(ev T fr x).norm) H r H'/\(soft=true->QK q H H')/\K (fr.put o.dst r) H'|.invoke _ _=>False
 |_=>match nA P T E ops q soft fr H o with
  |some v=>K (fr.put o.dst v) H|none=>False
section
variable{P:Program} {T:eH} {E:List Nat} {ops:List Oper} {q:Qt} {soft:Bool} {o:Oper} {K K':Fr->dT->Prop} {fr:Fr} {H:dT}
theorem NZ{dst:Option Nat}{cs:List AV}(a:∀fr H,K fr H->K' fr H)(h:kT E dst cs K fr H):kT E dst cs K' fr H:=by
 unfold kT at*
 grind
theorem MR{t:TypeId}{x v:AV}(a:∀fr H,K fr H->K' fr H)(h:lQ P t x v K fr H):lQ P t x v K' fr H:=by
 unfold lQ at*
 split at h
 all_goals grind
theorem Lg{c:Call}{dst:Option Nat}(a:∀fr H,K fr H->K' fr H)(h:m5 P T c dst K fr H):m5 P T c dst K' fr H:=by
 unfold m5 at*
 grind
def nW(P:Program)(T:eH)(E:List Nat)(ops:List Oper)(q:Qt)(soft:Bool)(o:Oper)(fr:Fr)(H:dT)(fr':Fr)(H':dT):Prop:=g_ P T E ops q soft o (λf h=>f=fr'/\h=H') fr H
theorem Qi{dst:Option Nat}{cs:List AV}(h:kT E dst cs K fr H):∃fr' H',kT E dst cs (λf h=>f=fr'/\h=H') fr H/\K fr' H':=by
 unfold kT at*
 grind
theorem OY{t:TypeId}{x v:AV}(h:lQ P t x v K fr H):∃fr' H',lQ P t x v (λf h=>f=fr'/\h=H') fr H/\K fr' H':=by
 unfold lQ at*
 split at h
 all_goals grind
theorem NW{c:Call}{dst:Option Nat}(h:m5 P T c dst K fr H):∃fr' H',m5 P T c dst (λf h=>f=fr'/\h=H') fr H/\K fr' H':=by
 unfold m5 at*
 grind
def sX(h:g_ P T E ops q soft o K fr H):∃fr' H',nW P T E ops q soft o fr H fr' H'/\K fr' H':=by
 unfold nW g_ at*
 grind[Qi,OY,NW]
theorem I5(a:∀fr H,K fr H->K' fr H)(h:g_ P T E ops q soft o K fr H):g_ P T E ops q soft o K' fr H:=by
 unfold g_ at*
 split at h
 all_goals grind[NZ,MR,Lg]
def vF{fr':Fr}{H':dT}(h:nW P T E ops q soft o fr H fr' H')(a:K fr' H'):g_ P T E ops q soft o K fr H:=
 I5 (λf h ⟨b,c⟩=>by subst b;subst c;exact a) h
def MM(h:g_ P T E ops q soft o K fr H):qz P T E o K fr H:=by
 obtain⟨dst,op,type,pos,after,guard⟩:=o;cases op with
 |alloc t=>grind[g_,qz]|box t x=>
  simp only[g_,qz] at h|-;exact⟨h.1,h.2.2⟩
 |store t x y=>
  simp only[g_,qz] at h|-;exact⟨h.1,h.2.2.2⟩
 |load t x=>grind[g_,qz,nA]|buildSlice t n B=>
  simp only[g_,qz,nA] at h|-
  split at h
  ·rename_i v j
   split at j
   ·cases j
   ·rename_i k;rw[j];simp only[Ih];rw[dI k];exact h
  ·exact h.elim
 |lookup t x i ok=>grind[g_,qz,nA]|convert s d x=>
  simp only[g_,qz,nA,zA,Up] at h|-
  grind
 |call c=>
  obtain⟨callee,args,Zm⟩:=c;cases callee with
  |builtin b=>cases b<;>simp only[g_,qz,nA] at h|-<;>first|exact .inl (.inl h)|exact h
  |value f=>
   simp only[g_,qz] at h|-;obtain⟨r,H',a,C,l⟩:=h;unfold tX oY at a;unfold oY
   split at a
   ·exact a.mono λD u ⟨w,A⟩=>by subst w;subst A;exact l
   ·exact a
  |invoke r m=>simp only[g_] at h
 |_=>
  simp only[g_,qz,nA] at h|-
  first
   |exact h
   |(simp only[zA] at h)
end
section
variable{P:Program} {T:eH} {fr fr':Fr}
theorem DS{x:Operand}(h:∀t,x=.tmp t->fr.env t=fr'.env t):ev T fr x=ev T fr' x:=by
 cases x with
 |tmp t=>exact h t rfl|_=>rfl
theorem Sf{xs:List Operand}(h:∀x∈xs,ev T fr x=ev T fr' x):xs.map (ev T fr)=xs.map (ev T fr'):=uU h
def F_{c:Call}(h:∀x∈c.args.toList,ev T fr x=ev T fr' x):xC P T fr c=xC P T fr' c:=by
 unfold xC
 split
 all_goals grind[Sf]
def PC{o:Oper}(h:∀x∈o.op.operands,ev T fr x=ev T fr' x):zA P T fr o=zA P T fr' o:=by
 obtain⟨dst,op,type,pos,after,guard⟩:=o
 have opt:∀(x:Option Operand),(∀y,x=some y->ev T fr y=ev T fr' y)->x.map (ev T fr)=x.map (ev T fr'):=by
  intro x a;cases x with
  |none=>rfl|some y=>simp[a y rfl]
 cases op<;>simp only[Op.operands] at h<;>simp only[zA]
 case move x=>rw[h x aaF]
 case assign x=>rw[h x aaF]
 case pick c x y=>rw[h c aaF,h x aaF,h y aaF]
 case build t j=>
  have:(j.toList.map λp=>(p.1,ev T fr p.2))=j.toList.map λp=>(p.1,ev T fr' p.2):=
   uU λp k=>by rw[h p.2 (by simp;exact⟨p.1,by simpa using k⟩)]
  rw[this]
 case binOp op t x y r=>rw[h x aaF,h y aaF]
 case unOp op t x=>rw[h x aaF]
 case convert s d x=>rw[h x aaF]
 case makeFunc fn f c=>
  have l:(f.toList.map λx=>(ev T fr x).norm)=f.toList.map λx=>(ev T fr' x).norm:=uU λx a=>by rw[h x (by simp[yf.1 a])]
  have n:(c.toList.map λx=>(ev T fr x).norm)=c.toList.map λx=>(ev T fr' x).norm:=uU λx a=>by rw[h x (by simp[yf.1 a])]
  rw[l,n]
 case fieldAddr t x i=>rw[h x aaF]
 case field t x i=>rw[h x aaF]
 case indexAddr t x i=>rw[h x aaF,h i aaF]
 case index t x i=>rw[h x aaF,h i aaF]
 case slice t x lo hi q=>rw[h x aaF,opt lo λy b=>h y (by simp[b]),opt hi λy b=>h y (by simp[b]),opt q λy b=>h y (by simp[b])]
 case extract x i=>rw[h x aaF]
 case nilCheck x=>rw[h x aaF]
 case makeInterface t x=>rw[h x aaF]
 case typeAssert x u t ok=>cases ok<;>simp only[h x aaF]
 case call c=>exact F_ λx a=>h x (by simp[Call.operands,yf.1 a])
def Nk{H H':dT}{t:TypeId}{x:AV}(a:∀b g off,x=.hU b g off->fr.box b=fr'.box b/\fr.gen b=fr'.gen b)(c:∀o off,x=.eT o off->H[o]?=H'[o]?):uH P fr H t x=uH P fr' H' t x:=by
 cases x with
 |hU b g off=>grind[uH]|eT o off=>grind[uH]|_=>rfl
def yQ{E:List Nat}{ops:List Oper}{q:Qt}{soft:Bool}{H H':dT}{o:Oper}(h:∀x∈o.op.operands,ev T fr x=ev T fr' x)
  (f:∀t x,o.op=.load t x->(∀b g off,ev T fr x=.hU b g off->fr.box b=fr'.box b/\fr.gen b=fr'.gen b)/\(∀o off,ev T fr x=.eT o off->H[o]?=H'[o]?)) (j:∀t x i ok,o.op=.lookup t x i ok->H=H'):nA P T E ops q soft fr H o=nA P T E ops q soft fr' H' o:=by
 obtain⟨dst,op,type,pos,after,guard⟩:=o;cases op with
 |load t x=>
  have a:=h x (by simp[Op.operands]);obtain⟨k,r⟩:=f t x rfl;simp only[nA];rw[Nk k r,a]
 |lookup t x i ok=>
  simp only[nA];rw[j t x i ok rfl,h x (by simp[Op.operands]),h i (by simp[Op.operands])]
 |buildSlice t n d=>
  simp only[nA]
  have:(d.toList.map λp=>(p.1,ev T fr p.2))=d.toList.map λp=>(p.1,ev T fr' p.2):=
   uU λp s=>by rw[h p.2 (by simp[Op.operands];exact⟨p.1,by simpa using s⟩)]
  rw[this]
 |makeSlice t l c=>
  simp only[nA];rw[h l (by simp[Op.operands]),h c (by simp[Op.operands])]
 |call c=>
  obtain⟨callee,args,Zm⟩:=c
  have u:xC P T fr {callee:=callee,args:=args,argTypes:=Zm}=xC P T fr' {callee:=callee,args:=args,argTypes:=Zm}:=
   F_ λx a=>h x (by simp[Op.operands,Call.operands,yf.1 a])
  cases callee with
  |builtin b=>cases b<;>simp only[nA]<;>first|rfl|exact u
  |_=>rfl
 |alloc t=>rfl|box t x=>rfl|store t x y=>rfl|_=>exact PC (P:=P) h
end
theorem nc(fr:Fr){d a:Nat}(h:d≠a)(x y:AV):(fr.put (some d) x).put (some a) y=(fr.put (some a) y).put (some d) x:=by
 simp only[Fr.put]
 congr 1
 grind[gz]
section
variable{P:Program} {T:eH} {E:List Nat} {ops:List Oper} {opsA:Array Oper} {q:Qt} {soft:Bool} {o:Oper} {K:Fr->dT->Prop} {fr:Fr} {H:dT}
def KR{d:Nat}{v:AV}(J:d∉o.looksAt opsA)(A:o.dst≠some d)(h:g_ P T E ops q soft o K (fr.put (some d) v) H):g_ P T E ops q soft o (λf h=>K (f.put (some d) v) h) fr H:=by
 have j:∀x∈o.op.operands,ev T (fr.put (some d) v) x=ev T fr x:=by
  intro x D;refine DS λt R=>?_;subst R;rw[Fr.tG,dI];rintro he;injection he with he;subst he;exact J (afK _ (afn.2 ⟨.tmp d,by simpa using D,rfl⟩))
 have F:nA P T E ops q soft (fr.put (some d) v) H o=nA P T E ops q soft fr H o:=yQ j (λt x _=>⟨λb g off _=>⟨rfl,rfl⟩,λ_ _ _=>rfl⟩) λ_ _ _ _ _=>rfl;clear J;obtain⟨dst,op,type,pos,after,guard⟩:=o;simp only at A
 have a:∀x:AV,((fr.put (some d) v).put dst x)=((fr.put dst x).put (some d) v):=by
  intro x;cases dst with
  |none=>rfl|some u=>exact nc fr (λe=>A (by rw[e])) v x
 have n:∀cs,kT E dst cs K (fr.put (some d) v) H->kT E dst cs (λf h=>K (f.put (some d) v) h) fr H:=by
  intro cs w;unfold kT at*
  split at w
  ·rename_i u;have C:u≠d:=λe=>A (by rw[e])
   have B:∀y:AV,gz (gz fr.env d v) u y=gz (gz fr.env u y) d v:=by
    intro y;have:=congrArg Fr.env (nc fr C.symm v y);exact this
   split at w
   ·rename_i G;rw[dO G];simp only[Fr.put] at w|-;rw[<-B];exact w
   ·rename_i G;rw[dI G];simp only[Fr.put] at w|-;rw[<-B];exact w
  ·exact w.elim
 cases op with
 |alloc t=>
  simp only[g_] at h|-
  split at h
  ·exact⟨h.1,n _ h.2⟩
  ·exact h.elim
 |box t x=>
  simp only[g_] at h|-;rw[j x (by simp[Op.operands])] at h;exact⟨h.1,h.2.1,n _ h.2.2⟩
 |store t x y=>
  simp only[g_] at h|-;rw[j x (by simp[Op.operands]),j y (by simp[Op.operands])] at h;refine⟨h.1,h.2.1,h.2.2.1,?_⟩;have S:=h.2.2.2;unfold lQ at*;exact S
 |call c=>
  obtain⟨callee,args,Zm⟩:=c;cases callee with
  |builtin b=>
   have i:∀x∈args.toList,ev T (fr.put (some d) v) x=ev T fr x:=λx D=>j x (by simp[Op.operands,Call.operands,yf.1 D])
   cases b<;>first
    |(simp only[g_] at h|-
      rw[F] at h
      split at h
      ·rw[<-a];exact h
      ·exact h.elim)
    |(simp only[g_] at h|-
      unfold m5 at*
      split at h
      ·rename_i u s x t U k L;have C:u≠d:=λe=>A (by rw[e]);simp only at k;rw[i s (by rw[k];simp),i x (by rw[k];simp)] at h
       split at h
       ·rename_i e sz tag l M m N O Q;obtain⟨g1,g2,g3,g4,g5⟩:=h;refine⟨g1,g2,g3,g4,?_⟩;have I:oT (fr.put (some d) v) tag l=oT fr tag l:=rfl;rw[I] at g5
        split at g5
        ·rename_i w;rw[dO w]
         have:grown (fr.put (some d) v) u tag l m=(grown fr u tag l m).put (some d) v:=by
          have:=congrArg Fr.env (nc fr C.symm v (.slice (.loc u (fr.e8 u+1)) (l++m)));simp only[grown,Fr.put] at this|-;rw[this]
         show K ((grown fr u tag l m).put (some d) v) H;rw[<-this];exact g5
        ·rename_i w;rw[dI w];refine⟨g5.1,?_⟩;show K ((fr.put (some u) (.slice .gx l)).put (some d) v) H;rw[<-a];exact g5.2
       ·exact h.elim
      ·exact h.elim)
  |value f=>
   simp only[g_] at h|-
   have i:(args.toList.map λx=>(ev T (fr.put (some d) v) x).norm)=args.toList.map λx=>(ev T fr x).norm:=
    uU λx D=>by rw[j x (by simp[Op.operands,Call.operands,yf.1 D])]
   rw[i,j f (by simp[Op.operands,Call.operands])] at h;obtain⟨r,H',N,O,Q⟩:=h;refine⟨r,H',N,O,?_⟩;rw[<-a];exact Q
  |invoke r m=>exact h
 |_=>
  simp only[g_] at h|-;rw[F] at h
  split at h
  ·rw[<-a];exact h
  ·exact h.elim
end
end Go.kY
