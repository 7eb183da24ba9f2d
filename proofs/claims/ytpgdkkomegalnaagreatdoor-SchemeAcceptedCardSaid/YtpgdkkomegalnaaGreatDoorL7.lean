/- Part of the proof of SchemeAccepted: layer. -/
import Derived.Test.YtpgdkkomegalnaaGreatDoorL6
set_option linter.all false
namespace Go.kY
open Go
def rootOf(ops:List Oper):Nat->Nat->Option Nat
 |0,_=>none|f+1,t=>
  match ops.find? (λo=>o.dst==some t)with
  |none=>some t|some o=>match o.op with
   |.fieldAddr _ (.tmp y) _=>rootOf ops f y|.indexAddr _ (.tmp y) _=>rootOf ops f y|.nilCheck (.tmp y)=>rootOf ops f y|.move (.tmp y)=>rootOf ops f y|.alloc _=>some t|.box _ _=>some t|_=>none
def E5(ops:List Oper):Operand->Option Nat
 |.tmp t=>rootOf ops (ops.length+1) t|_=>none
def qI(ops:List Oper)(x:Operand)(v:AV):Bool:=
 match v with
 |.gX b _ _=>E5 ops x==some b|_=>true
def isG:AV->Bool
 |.eK _ _=>true|_=>false
def isL:AV->Bool
 |.gX _ _ _=>true|_=>false
inductive Cls where
 |val|load (r:Option Nat)|alloc (d:Option Nat)|BF|app|MF (r:Option Nat)
 deriving DecidableEq
def fU(E:List Nat)(ops:List Oper)(o:Oper):Cls:=
 match o.op with
 |.load _ x=>.load (E5 ops x)|.lookup _ _ _ _=>.load none|.alloc _=>match o.dst with|some d=>if E.contains d then .BF else .alloc (some d)|none=>.BF
 |.box _ _=>match o.dst with|some d=>if E.contains d then .BF else .alloc (some d)|none=>.BF
 |.store _ x _=>.MF (E5 ops x)|.call c=>match c.callee with|.builtin .append=>.app|.builtin _=>.val|_=>.BF
 |_=>.val
def wO:Cls->Cls->Bool
 |.val,_=>true|_,.val=>true|.load _,.load _=>true|.load r,.alloc d=>r !=d|.alloc d,.load r=>r !=d|.load _,.app=>true|.app,.load _=>true|.load _,.BF=>true|.BF,.load _=>true|.load r,.MF a=>r !=a|.MF a,.load r=>r !=a|.alloc _,.alloc _=>true|.alloc _,.app=>true|.app,.alloc _=>true|.alloc _,.BF=>true|.BF,.alloc _=>true|.app,.BF=>true|.BF,.app=>true|_,_=>false
structure Qt where
 all:Bool
 st:Nat->Bool
 cl:Nat->Nat:=λ_=>0
instance:Coe Bool Qt:=⟨λb=>⟨b,λ_=>false,λ_=>0⟩⟩
def Qt.ok(q:Qt):AV->Bool
 |.eK o _=>q.all||q.st o|_=>true
def QK(q:Qt)(H H':dS):Prop:=(q.all=true->H'=H)/\∀o,q.st o=true->H'[o]?=H[o]?
@[simp] theorem Qt.alB(q:Qt)(o f:Nat):q.ok (.eK o f)=(q.all||q.st o):=rfl
@[simp] theorem Qt.al2(q:Qt)(b g f:Nat):q.ok (.gX b g f)=true:=rfl
@[simp] theorem Qt.alM(q:Qt)(x:AV):q.ok (.kU x)=true:=rfl
@[simp] theorem am6(a:Bool)(st:Nat->Bool)(cl:Nat->Nat)(H H':dS):QK ⟨a,st,cl⟩ H H'=((a=true->H'=H)/\∀o,st o=true->H'[o]?=H[o]?):=rfl
theorem QK.refl{q:Qt}{H:dS}:QK q H H:=⟨λ_=>rfl,λ_ _=>rfl⟩
def nG(P:Program)(T:eA)(E:List Nat)(ops:List Oper)(q:Qt)(soft:Bool)(fr:Fr)(H:dS)(o:Oper):Option AV:=
 match o.op with
 |.load t x=>if qI ops x (ev T fr x)&&(!soft||q.ok (ev T fr x))then ud P fr H t (ev T fr x)else none|.lookup t x i ok=>if !soft||q.all then uC P H t (ev T fr x) (ev T fr i) ok else none|.buildSlice t n a=>if o.dst.any E.contains then none else na P t n (a.toList.map λp=>(p.1,ev T fr p.2))|.makeSlice t l c=>yy P t (ev T fr l) (ev T fr c)|.alloc _=>none|.box _ _=>none|.store _ _ _=>none|.call c=>match c.callee with
  |.builtin .append=>none|.builtin _=>uf P T fr c|_=>none
 |_=>xw P T fr o
def nu(P:Program)(T:eA)(b:AV)(args:List AV)(H:dS)(r:AV)(H':dS):Prop:=nK P T b args H λc a=>c=r/\a=H'
def hE(P:Program)(T:eA)(E:List Nat)(ops:List Oper)(q:Qt)(soft:Bool)(o:Oper)(K:Fr->dS->Prop)(fr:Fr)(H:dS):Prop:=
 match o.op with
 |.alloc t=>match gl P t with
  |some z=>(soft=true->o.dst.any E.contains=false)/\kM E o.dst z K fr H|none=>False
 |.box _ x=>eU (ev T fr x)=true/\(soft=true->o.dst.any E.contains=false)/\kM E o.dst (ev T fr x).cells K fr H|.store t x y=>o.dst=none/\qI ops x (ev T fr x)=true/\(soft=true->isL (ev T fr x)=true)/\lZ P t (ev T fr x) (ev T fr y) K fr H|.call c=>match c.callee with
  |.builtin .append=>nj P T c o.dst K fr H|.builtin _=>match nG P T E ops q soft fr H o with
   |some v=>K (fr.put o.dst v) H|none=>False
  |.value f=>∃r H',nu P T (ev T fr f) (c.args.toList.map λx=>(ev T fr x).norm) H r H'/\(soft=true->QK q H H')/\K (fr.put o.dst r) H'|.invoke _ _=>False
 |_=>match nG P T E ops q soft fr H o with
  |some v=>K (fr.put o.dst v) H|none=>False
section
variable{P:Program} {T:eA} {E:List Nat} {ops:List Oper} {q:Qt} {soft:Bool} {o:Oper} {K K':Fr->dS->Prop} {fr:Fr} {H:dS}
theorem Qr{dst:Option Nat}{cs:List AV}(a:∀fr H,K fr H->K' fr H)(h:kM E dst cs K fr H):kM E dst cs K' fr H:=by
 unfold kM at*
 grind
theorem PM{t:TypeId}{x v:AV}(a:∀fr H,K fr H->K' fr H)(h:lZ P t x v K fr H):lZ P t x v K' fr H:=by
 unfold lZ at*
 split at h
 all_goals grind
theorem Nk{c:Call}{dst:Option Nat}(a:∀fr H,K fr H->K' fr H)(h:nj P T c dst K fr H):nj P T c dst K' fr H:=by
 unfold nj at*
 grind
def n8(P:Program)(T:eA)(E:List Nat)(ops:List Oper)(q:Qt)(soft:Bool)(o:Oper)(fr:Fr)(H:dS)(fr':Fr)(H':dS):Prop:=hE P T E ops q soft o (λf h=>f=fr'/\h=H') fr H
theorem S_{dst:Option Nat}{cs:List AV}(h:kM E dst cs K fr H):∃fr' H',kM E dst cs (λf h=>f=fr'/\h=H') fr H/\K fr' H':=by
 unfold kM at*
 grind
theorem Sh{t:TypeId}{x v:AV}(h:lZ P t x v K fr H):∃fr' H',lZ P t x v (λf h=>f=fr'/\h=H') fr H/\K fr' H':=by
 unfold lZ at*
 split at h
 all_goals grind
theorem Ou{c:Call}{dst:Option Nat}(h:nj P T c dst K fr H):∃fr' H',nj P T c dst (λf h=>f=fr'/\h=H') fr H/\K fr' H':=by
 unfold nj at*
 grind
def sE(h:hE P T E ops q soft o K fr H):∃fr' H',n8 P T E ops q soft o fr H fr' H'/\K fr' H':=by
 unfold n8 hE at*
 grind[S_,Sh,Ou]
theorem Ip(a:∀fr H,K fr H->K' fr H)(h:hE P T E ops q soft o K fr H):hE P T E ops q soft o K' fr H:=by
 unfold hE at*
 split at h
 all_goals grind[Qr,PM,Nk]
def vd{fr':Fr}{H':dS}(h:n8 P T E ops q soft o fr H fr' H')(a:K fr' H'):hE P T E ops q soft o K fr H:=
 Ip (λf h ⟨b,c⟩=>by subst b;subst c;exact a) h
def O8(h:hE P T E ops q soft o K fr H):qy P T E o K fr H:=by
 obtain⟨dst,op,type,pos,after,guard⟩:=o;cases op with
 |alloc t=>grind[hE,qy]|box t x=>
  simp only[hE,qy] at h|-;exact⟨h.1,h.2.2⟩
 |store t x y=>
  simp only[hE,qy] at h|-;exact⟨h.1,h.2.2.2⟩
 |load t x=>grind[hE,qy,nG]|buildSlice t n B=>
  simp only[hE,qy,nG] at h|-
  split at h
  ·rename_i v j
   split at j
   ·cases j
   ·rename_i k;rw[j];simp only[Jq];rw[dI k];exact h
  ·exact h.elim
 |lookup t x i ok=>grind[hE,qy,nG]|convert s d x=>
  simp only[hE,qy,nG,xw,QT] at h|-
  grind
 |call c=>
  obtain⟨callee,args,tys⟩:=c;cases callee with
  |builtin b=>cases b<;>simp only[hE,qy,nG] at h|-<;>first|exact .inl (.inl h)|exact h
  |value f=>
   simp only[hE,qy] at h|-;obtain⟨r,H',a,C,l⟩:=h;unfold nu nK at a;unfold nK
   split at a
   ·exact a.mono λD u ⟨w,A⟩=>by subst w;subst A;exact l
   ·exact a
  |invoke r m=>simp only[hE] at h
 |_=>
  simp only[hE,qy,nG] at h|-
  first
   |exact h
   |(simp only[xw] at h)
end
section
variable{P:Program} {T:eA} {fr fr':Fr}
theorem D7{x:Operand}(h:∀t,x=.tmp t->fr.env t=fr'.env t):ev T fr x=ev T fr' x:=by
 cases x with
 |tmp t=>exact h t rfl|_=>rfl
theorem U6{xs:List Operand}(h:∀x∈xs,ev T fr x=ev T fr' x):xs.map (ev T fr)=xs.map (ev T fr'):=uy h
def F8{c:Call}(h:∀x∈c.args.toList,ev T fr x=ev T fr' x):uf P T fr c=uf P T fr' c:=by
 unfold uf
 split
 all_goals grind[U6]
def Sv{o:Oper}(h:∀x∈o.op.operands,ev T fr x=ev T fr' x):xw P T fr o=xw P T fr' o:=by
 obtain⟨dst,op,type,pos,after,guard⟩:=o
 have opt:∀(x:Option Operand),(∀y,x=some y->ev T fr y=ev T fr' y)->x.map (ev T fr)=x.map (ev T fr'):=by
  intro x a;cases x with
  |none=>rfl|some y=>simp[a y rfl]
 cases op<;>simp only[Op.operands] at h<;>simp only[xw]
 case move x=>rw[h x LA]
 case assign x=>rw[h x LA]
 case pick c x y=>rw[h c LA,h x LA,h y LA]
 case build t j=>
  have:(j.toList.map λp=>(p.1,ev T fr p.2))=j.toList.map λp=>(p.1,ev T fr' p.2):=
   uy λp k=>by rw[h p.2 (by simp;exact⟨p.1,by simpa using k⟩)]
  rw[this]
 case binOp op t x y r=>rw[h x LA,h y LA]
 case unOp op t x=>rw[h x LA]
 case convert s d x=>rw[h x LA]
 case makeFunc fn f c=>
  have l:(f.toList.map λx=>(ev T fr x).norm)=f.toList.map λx=>(ev T fr' x).norm:=uy λx a=>by rw[h x (by simp[xD.1 a])]
  have n:(c.toList.map λx=>(ev T fr x).norm)=c.toList.map λx=>(ev T fr' x).norm:=uy λx a=>by rw[h x (by simp[xD.1 a])]
  rw[l,n]
 case fieldAddr t x i=>rw[h x LA]
 case field t x i=>rw[h x LA]
 case indexAddr t x i=>rw[h x LA,h i LA]
 case index t x i=>rw[h x LA,h i LA]
 case slice t x lo hi q=>rw[h x LA,opt lo λy b=>h y (by simp[b]),opt hi λy b=>h y (by simp[b]),opt q λy b=>h y (by simp[b])]
 case extract x i=>rw[h x LA]
 case nilCheck x=>rw[h x LA]
 case makeInterface t x=>rw[h x LA]
 case typeAssert x u t ok=>cases ok<;>simp only[h x LA]
 case call c=>exact F8 λx a=>h x (by simp[Call.operands,xD.1 a])
def QW{H H':dS}{t:TypeId}{x:AV}(a:∀b g off,x=.gX b g off->fr.box b=fr'.box b/\fr.gen b=fr'.gen b)(c:∀o off,x=.eK o off->H[o]?=H'[o]?):ud P fr H t x=ud P fr' H' t x:=by
 cases x with
 |gX b g off=>grind[ud]|eK o off=>grind[ud]|_=>rfl
def yD{E:List Nat}{ops:List Oper}{q:Qt}{soft:Bool}{H H':dS}{o:Oper}(h:∀x∈o.op.operands,ev T fr x=ev T fr' x)
  (f:∀t x,o.op=.load t x->(∀b g off,ev T fr x=.gX b g off->fr.box b=fr'.box b/\fr.gen b=fr'.gen b)/\(∀o off,ev T fr x=.eK o off->H[o]?=H'[o]?)) (j:∀t x i ok,o.op=.lookup t x i ok->H=H'):nG P T E ops q soft fr H o=nG P T E ops q soft fr' H' o:=by
 obtain⟨dst,op,type,pos,after,guard⟩:=o;cases op with
 |load t x=>
  have a:=h x (by simp[Op.operands]);obtain⟨k,r⟩:=f t x rfl;simp only[nG];rw[QW k r,a]
 |lookup t x i ok=>
  simp only[nG];rw[j t x i ok rfl,h x (by simp[Op.operands]),h i (by simp[Op.operands])]
 |buildSlice t n d=>
  simp only[nG]
  have:(d.toList.map λp=>(p.1,ev T fr p.2))=d.toList.map λp=>(p.1,ev T fr' p.2):=
   uy λp s=>by rw[h p.2 (by simp[Op.operands];exact⟨p.1,by simpa using s⟩)]
  rw[this]
 |makeSlice t l c=>
  simp only[nG];rw[h l (by simp[Op.operands]),h c (by simp[Op.operands])]
 |call c=>
  obtain⟨callee,args,tys⟩:=c
  have u:uf P T fr {callee:=callee,args:=args,argTypes:=tys}=uf P T fr' {callee:=callee,args:=args,argTypes:=tys}:=
   F8 λx a=>h x (by simp[Op.operands,Call.operands,xD.1 a])
  cases callee with
  |builtin b=>cases b<;>simp only[nG]<;>first|rfl|exact u
  |_=>rfl
 |alloc t=>rfl|box t x=>rfl|store t x y=>rfl|_=>exact Sv (P:=P) h
end
theorem ns(fr:Fr){d a:Nat}(h:d≠a)(x y:AV):(fr.put (some d) x).put (some a) y=(fr.put (some a) y).put (some d) x:=by
 simp only[Fr.put]
 congr 1
 grind[gA]
section
variable{P:Program} {T:eA} {E:List Nat} {ops:List Oper} {opsA:Array Oper} {q:Qt} {soft:Bool} {o:Oper} {K:Fr->dS->Prop} {fr:Fr} {H:dS}
def L_{d:Nat}{v:AV}(J:d∉o.looksAt opsA)(A:o.dst≠some d)(h:hE P T E ops q soft o K (fr.put (some d) v) H):hE P T E ops q soft o (λf h=>K (f.put (some d) v) h) fr H:=by
 have j:∀x∈o.op.operands,ev T (fr.put (some d) v) x=ev T fr x:=by
  intro x D;refine D7 λt R=>?_;subst R;rw[Fr.s9,dI];rintro he;injection he with he;subst he;exact J (akS _ (ajX.2 ⟨.tmp d,by simpa using D,rfl⟩))
 have F:nG P T E ops q soft (fr.put (some d) v) H o=nG P T E ops q soft fr H o:=yD j (λt x _=>⟨λb g off _=>⟨rfl,rfl⟩,λ_ _ _=>rfl⟩) λ_ _ _ _ _=>rfl;clear J;obtain⟨dst,op,type,pos,after,guard⟩:=o;simp only at A
 have a:∀x:AV,((fr.put (some d) v).put dst x)=((fr.put dst x).put (some d) v):=by
  intro x;cases dst with
  |none=>rfl|some u=>exact ns fr (λe=>A (by rw[e])) v x
 have n:∀cs,kM E dst cs K (fr.put (some d) v) H->kM E dst cs (λf h=>K (f.put (some d) v) h) fr H:=by
  intro cs w;unfold kM at*
  split at w
  ·rename_i u;have C:u≠d:=λe=>A (by rw[e])
   have B:∀y:AV,gA (gA fr.env d v) u y=gA (gA fr.env u y) d v:=by
    intro y;have:=congrArg Fr.env (ns fr C.symm v y);exact this
   split at w
   ·rename_i G;rw[dO G];simp only[Fr.put] at w|-;rw[<-B];exact w
   ·rename_i G;rw[dI G];simp only[Fr.put] at w|-;rw[<-B];exact w
  ·exact w.elim
 cases op with
 |alloc t=>
  simp only[hE] at h|-
  split at h
  ·exact⟨h.1,n _ h.2⟩
  ·exact h.elim
 |box t x=>
  simp only[hE] at h|-;rw[j x (by simp[Op.operands])] at h;exact⟨h.1,h.2.1,n _ h.2.2⟩
 |store t x y=>
  simp only[hE] at h|-;rw[j x (by simp[Op.operands]),j y (by simp[Op.operands])] at h;refine⟨h.1,h.2.1,h.2.2.1,?_⟩;have S:=h.2.2.2;unfold lZ at*;exact S
 |call c=>
  obtain⟨callee,args,tys⟩:=c;cases callee with
  |builtin b=>
   have i:∀x∈args.toList,ev T (fr.put (some d) v) x=ev T fr x:=λx D=>j x (by simp[Op.operands,Call.operands,xD.1 D])
   cases b<;>first
    |(simp only[hE] at h|-
      rw[F] at h
      split at h
      ·rw[<-a];exact h
      ·exact h.elim)
    |(simp only[hE] at h|-
      unfold nj at*
      split at h
      ·rename_i u s x t U k L;have C:u≠d:=λe=>A (by rw[e]);simp only at k;rw[i s (by rw[k];simp),i x (by rw[k];simp)] at h
       split at h
       ·rename_i e sz tag l M m N O Q;obtain⟨g1,g2,g3,g4,g5⟩:=h;refine⟨g1,g2,g3,g4,?_⟩;have I:oW (fr.put (some d) v) tag l=oW fr tag l:=rfl;rw[I] at g5
        split at g5
        ·rename_i w;rw[dO w]
         have:grown (fr.put (some d) v) u tag l m=(grown fr u tag l m).put (some d) v:=by
          have:=congrArg Fr.env (ns fr C.symm v (.slice (.loc u (fr.fa u+1)) (l++m)));simp only[grown,Fr.put] at this|-;rw[this]
         show K ((grown fr u tag l m).put (some d) v) H;rw[<-this];exact g5
        ·rename_i w;rw[dI w];refine⟨g5.1,?_⟩;show K ((fr.put (some u) (.slice .gx l)).put (some d) v) H;rw[<-a];exact g5.2
       ·exact h.elim
      ·exact h.elim)
  |value f=>
   simp only[hE] at h|-
   have i:(args.toList.map λx=>(ev T (fr.put (some d) v) x).norm)=args.toList.map λx=>(ev T fr x).norm:=
    uy λx D=>by rw[j x (by simp[Op.operands,Call.operands,xD.1 D])]
   rw[i,j f (by simp[Op.operands,Call.operands])] at h;obtain⟨r,H',N,O,Q⟩:=h;refine⟨r,H',N,O,?_⟩;rw[<-a];exact Q
  |invoke r m=>exact h
 |_=>
  simp only[hE] at h|-;rw[F] at h
  split at h
  ·rw[<-a];exact h
  ·exact h.elim
end
end Go.kY
