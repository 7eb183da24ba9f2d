/- Part of the proof of SchemeChains: layer. -/
import Derived.Test.YtpgdkkomegalnaaGreatDoorHL6
set_option linter.all false
namespace Go.lD
open Go
def rootOf(ops:List Oper):Nat->Nat->Option Nat
 |0,_=>none|f+1,t=>
  match ops.find? (λo=>o.dst==some t)with
  |none=>some t|some o=>match o.op with
   |.fieldAddr _ (.tmp y) _=>rootOf ops f y|.indexAddr _ (.tmp y) _=>rootOf ops f y|.nilCheck (.tmp y)=>rootOf ops f y|.move (.tmp y)=>rootOf ops f y|.alloc _=>some t|.box _ _=>some t|_=>none
def Gf(ops:List Oper):Operand->Option Nat
 |.tmp t=>rootOf ops (ops.length+1) t|_=>none
def qA(ops:List Oper)(x:Operand)(v:AV):Bool:=
 match v with
 |.h9 b _ _=>Gf ops x==some b|_=>true
def isG:AV->Bool
 |.fg _ _=>true|_=>false
def isL:AV->Bool
 |.h9 _ _ _=>true|_=>false
inductive Cls where
 |val|load (r:Option Nat)|alloc (d:Option Nat)|B4|app|Od (r:Option Nat)
 deriving DecidableEq
def gp(E:List Nat)(ops:List Oper)(o:Oper):Cls:=
 match o.op with
 |.load _ x=>.load (Gf ops x)|.lookup _ _ _ _=>.load none|.alloc _=>match o.dst with|some d=>if E.contains d then .B4 else .alloc (some d)|none=>.B4
 |.box _ _=>match o.dst with|some d=>if E.contains d then .B4 else .alloc (some d)|none=>.B4
 |.store _ x _=>.Od (Gf ops x)|.call c=>match c.callee with|.builtin .append=>.app|.builtin _=>.val|_=>.B4
 |_=>.val
def xl:Cls->Cls->Bool
 |.val,_=>true|_,.val=>true|.load _,.load _=>true|.load r,.alloc d=>r !=d|.alloc d,.load r=>r !=d|.load _,.app=>true|.app,.load _=>true|.load _,.B4=>true|.B4,.load _=>true|.load r,.Od a=>r !=a|.Od a,.load r=>r !=a|.alloc _,.alloc _=>true|.alloc _,.app=>true|.app,.alloc _=>true|.alloc _,.B4=>true|.B4,.alloc _=>true|.app,.B4=>true|.B4,.app=>true|_,_=>false
structure Qt where
 all:Bool
 st:Nat->Bool
 cl:Nat->Nat:=λ_=>0
instance:Coe Bool Qt:=⟨λb=>⟨b,λ_=>false,λ_=>0⟩⟩
def Qt.ok(q:Qt):AV->Bool
 |.fg o _=>q.all||q.st o|_=>true
def QK(q:Qt)(H H':dV):Prop:=(q.all=true->H'=H)/\∀o,q.st o=true->H'[o]?=H[o]?
@[simp] theorem Qt.al8(q:Qt)(o f:Nat):q.ok (.fg o f)=(q.all||q.st o):=rfl
@[simp] theorem Qt.alw(q:Qt)(b g f:Nat):q.ok (.h9 b g f)=true:=rfl
@[simp] theorem Qt.alC(q:Qt)(x:AV):q.ok (.mQ x)=true:=rfl
@[simp] theorem anF(a:Bool)(st:Nat->Bool)(cl:Nat->Nat)(H H':dV):QK ⟨a,st,cl⟩ H H'=((a=true->H'=H)/\∀o,st o=true->H'[o]?=H[o]?):=rfl
theorem QK.refl{q:Qt}{H:dV}:QK q H H:=⟨λ_=>rfl,λ_ _=>rfl⟩
def nZ(P:Program)(T:eK)(E:List Nat)(ops:List Oper)(q:Qt)(soft:Bool)(fr:Fr)(H:dV)(o:Oper):Option AV:=
 match o.op with
 |.load t x=>if qA ops x (ev T fr x)&&(!soft||q.ok (ev T fr x))then uy P fr H t (ev T fr x)else none|.lookup t x i ok=>if !soft||q.all then ve P H t (ev T fr x) (ev T fr i) ok else none|.buildSlice t n ps=>if o.dst.any E.contains then none else nE P t n (ps.toList.map λp=>(p.1,ev T fr p.2))|.makeSlice t l c=>zB P t (ev T fr l) (ev T fr c)|.alloc _=>none|.box _ _=>none|.store _ _ _=>none|.call c=>match c.callee with
  |.builtin .append=>none|.builtin _=>xx P T fr c|_=>none
 |_=>zx P T fr o
def nu(P:Program)(T:eK)(b:AV)(args:List AV)(H:dV)(r:AV)(H':dV):Prop:=oa P T b args H λc a=>c=r/\a=H'
def hE(P:Program)(T:eK)(E:List Nat)(ops:List Oper)(q:Qt)(soft:Bool)(o:Oper)(K:Fr->dV->Prop)(fr:Fr)(H:dV):Prop:=
 match o.op with
 |.alloc t=>match jH P t with
  |some z=>(soft=true->o.dst.any E.contains=false)/\ly E o.dst z K fr H|none=>False
 |.box _ x=>fG (ev T fr x)=true/\(soft=true->o.dst.any E.contains=false)/\ly E o.dst (ev T fr x).cells K fr H|.store t x y=>o.dst=none/\qA ops x (ev T fr x)=true/\(soft=true->isL (ev T fr x)=true)/\mj P t (ev T fr x) (ev T fr y) K fr H|.call c=>match c.callee with
  |.builtin .append=>nq P T c o.dst K fr H|.builtin _=>match nZ P T E ops q soft fr H o with
   |some v=>K (fr.put o.dst v) H|none=>False
  |.value f=>∃r H',nu P T (ev T fr f) (c.args.toList.map λx=>(ev T fr x).norm) H r H'/\(soft=true->QK q H H')/\K (fr.put o.dst r) H'|.invoke _ _=>False
 |_=>match nZ P T E ops q soft fr H o with
  |some v=>K (fr.put o.dst v) H|none=>False
section
variable{P:Program} {T:eK} {E:List Nat} {ops:List Oper} {q:Qt} {soft:Bool} {o:Oper} {K K':Fr->dV->Prop} {fr:Fr} {H:dV}
theorem PJ{dst:Option Nat}{cs:List AV}(a:∀fr H,K fr H->K' fr H)(h:ly E dst cs K fr H):ly E dst cs K' fr H:=by
 unfold ly at*
 grind
theorem Rm{t:TypeId}{x v:AV}(a:∀fr H,K fr H->K' fr H)(h:mj P t x v K fr H):mj P t x v K' fr H:=by
 unfold mj at*
 split at h
 all_goals grind
theorem ND{c:Call}{dst:Option Nat}(a:∀fr H,K fr H->K' fr H)(h:nq P T c dst K fr H):nq P T c dst K' fr H:=by
 unfold nq at*
 grind
def oD(P:Program)(T:eK)(E:List Nat)(ops:List Oper)(q:Qt)(soft:Bool)(o:Oper)(fr:Fr)(H:dV)(fr':Fr)(H':dV):Prop:=hE P T E ops q soft o (λf h=>f=fr'/\h=H') fr H
theorem Uc{dst:Option Nat}{cs:List AV}(h:ly E dst cs K fr H):∃fr' H',ly E dst cs (λf h=>f=fr'/\h=H') fr H/\K fr' H':=by
 unfold ly at*
 grind
theorem SG{t:TypeId}{x v:AV}(h:mj P t x v K fr H):∃fr' H',mj P t x v (λf h=>f=fr'/\h=H') fr H/\K fr' H':=by
 unfold mj at*
 split at h
 all_goals grind
theorem Rb{c:Call}{dst:Option Nat}(h:nq P T c dst K fr H):∃fr' H',nq P T c dst (λf h=>f=fr'/\h=H') fr H/\K fr' H':=by
 unfold nq at*
 grind
def tN(h:hE P T E ops q soft o K fr H):∃fr' H',oD P T E ops q soft o fr H fr' H'/\K fr' H':=by
 unfold oD hE at*
 grind[Uc,SG,Rb]
theorem J2(a:∀fr H,K fr H->K' fr H)(h:hE P T E ops q soft o K fr H):hE P T E ops q soft o K' fr H:=by
 unfold hE at*
 split at h
 all_goals grind[PJ,Rm,ND]
def wP{fr':Fr}{H':dV}(h:oD P T E ops q soft o fr H fr' H')(a:K fr' H'):hE P T E ops q soft o K fr H:=
 J2 (λf h ⟨b,c⟩=>by subst b;subst c;exact a) h
def Pv(h:hE P T E ops q soft o K fr H):rp P T E o K fr H:=by
 obtain⟨dst,op,type,pos,after,guard⟩:=o;cases op with
 |alloc t=>grind[hE,rp]|box t x=>
  simp only[hE,rp] at h|-;exact⟨h.1,h.2.2⟩
 |store t x y=>
  simp only[hE,rp] at h|-;exact⟨h.1,h.2.2.2⟩
 |load t x=>grind[hE,rp,nZ]|buildSlice t n ps=>
  simp only[hE,rp,nZ] at h|-
  split at h
  .rename_i v j
   split at j
   .cases j
   .rename_i k;rw[j];simp only[J_];rw[dK k];exact h
  .exact h.elim
 |lookup t x i ok=>grind[hE,rp,nZ]|convert s d x=>
  simp only[hE,rp,nZ,zx,aaL] at h|-
  grind
 |call c=>
  obtain⟨callee,args,tys⟩:=c;cases callee with
  |builtin b=>cases b<;>simp only[hE,rp,nZ] at h|-<;>first|exact .inl (.inl h)|exact h
  |value f=>
   simp only[hE,rp] at h|-;obtain⟨r,H',a,B,l⟩:=h;unfold nu oa at a;unfold oa
   split at a
   .exact a.mono λC u ⟨w,A⟩=>by subst w;subst A;exact l
   .exact a
  |invoke r m=>simp only[hE] at h
 |_=>
  simp only[hE,rp,nZ] at h|-
  first
   |exact h
   |(simp only[zx] at h)
end
section
variable{P:Program} {T:eK} {fr fr':Fr}
theorem DX{x:Operand}(h:∀t,x=.tmp t->fr.env t=fr'.env t):ev T fr x=ev T fr' x:=by
 cases x with
 |tmp t=>exact h t rfl|_=>rfl
theorem V7{xs:List Operand}(h:∀x∈xs,ev T fr x=ev T fr' x):xs.map (ev T fr)=xs.map (ev T fr'):=th h
def Gm{c:Call}(h:∀x∈c.args.toList,ev T fr x=ev T fr' x):xx P T fr c=xx P T fr' c:=by
 unfold xx
 split
 all_goals grind[V7]
def Uf{o:Oper}(h:∀x∈o.op.operands,ev T fr x=ev T fr' x):zx P T fr o=zx P T fr' o:=by
 obtain⟨dst,op,type,pos,after,guard⟩:=o
 have opt:∀(x:Option Operand),(∀y,x=some y->ev T fr y=ev T fr' y)->x.map (ev T fr)=x.map (ev T fr'):=by
  intro x a;cases x with
  |none=>rfl|some y=>simp[a y rfl]
 cases op<;>simp only[Op.operands] at h<;>simp only[zx]
 case move x=>rw[h x abm]
 case assign x=>rw[h x abm]
 case pick c x y=>rw[h c abm,h x abm,h y abm]
 case build t ps=>
  have:(ps.toList.map λp=>(p.1,ev T fr p.2))=ps.toList.map λp=>(p.1,ev T fr' p.2):=
   th λp b=>by rw[h p.2 (by simp;exact⟨p.1,by simpa using b⟩)]
  rw[this]
 case binOp op t x y n=>rw[h x abm,h y abm]
 case unOp op t x=>rw[h x abm]
 case convert s d x=>rw[h x abm]
 case makeFunc fn f c=>
  have j:(f.toList.map λx=>(ev T fr x).norm)=f.toList.map λx=>(ev T fr' x).norm:=th λx a=>by rw[h x (by simp[yd.1 a])]
  have k:(c.toList.map λx=>(ev T fr x).norm)=c.toList.map λx=>(ev T fr' x).norm:=th λx a=>by rw[h x (by simp[yd.1 a])]
  rw[j,k]
 case fieldAddr t x i=>rw[h x abm]
 case field t x i=>rw[h x abm]
 case indexAddr t x i=>rw[h x abm,h i abm]
 case index t x i=>rw[h x abm,h i abm]
 case slice t x lo hi l=>rw[h x abm,opt lo λy hy=>h y (by simp[hy]),opt hi λy hy=>h y (by simp[hy]),opt l λy hy=>h y (by simp[hy])]
 case extract x i=>rw[h x abm]
 case nilCheck x=>rw[h x abm]
 case makeInterface t x=>rw[h x abm]
 case typeAssert x q t ok=>cases ok<;>simp only[h x abm]
 case call c=>exact Gm λx a=>h x (by simp[Call.operands,yd.1 a])
def Qr{H H':dV}{t:TypeId}{x:AV}(a:∀b g off,x=.h9 b g off->fr.box b=fr'.box b/\fr.gen b=fr'.gen b)(c:∀o off,x=.fg o off->H[o]?=H'[o]?):uy P fr H t x=uy P fr' H' t x:=by
 cases x with
 |h9 b g off=>grind[uy]|fg o off=>grind[uy]|_=>rfl
def yJ{E:List Nat}{ops:List Oper}{q:Qt}{soft:Bool}{H H':dV}{o:Oper}(h:∀x∈o.op.operands,ev T fr x=ev T fr' x)
  (d:∀t x,o.op=.load t x->(∀b g off,ev T fr x=.h9 b g off->fr.box b=fr'.box b/\fr.gen b=fr'.gen b)/\(∀o off,ev T fr x=.fg o off->H[o]?=H'[o]?)) (f:∀t x i ok,o.op=.lookup t x i ok->H=H'):nZ P T E ops q soft fr H o=nZ P T E ops q soft fr' H' o:=by
 obtain⟨dst,op,type,pos,after,guard⟩:=o;cases op with
 |load t x=>
  have a:=h x (by simp[Op.operands]);obtain⟨j,k⟩:=d t x rfl;simp only[nZ];rw[Qr j k,a]
 |lookup t x i ok=>
  simp only[nZ];rw[f t x i ok rfl,h x (by simp[Op.operands]),h i (by simp[Op.operands])]
 |buildSlice t n ps=>
  simp only[nZ]
  have:(ps.toList.map λp=>(p.1,ev T fr p.2))=ps.toList.map λp=>(p.1,ev T fr' p.2):=
   th λp r=>by rw[h p.2 (by simp[Op.operands];exact⟨p.1,by simpa using r⟩)]
  rw[this]
 |makeSlice t l c=>
  simp only[nZ];rw[h l (by simp[Op.operands]),h c (by simp[Op.operands])]
 |call c=>
  obtain⟨callee,args,tys⟩:=c
  have s:xx P T fr {callee:=callee,args:=args,argTypes:=tys}=xx P T fr' {callee:=callee,args:=args,argTypes:=tys}:=
   Gm λx a=>h x (by simp[Op.operands,Call.operands,yd.1 a])
  cases callee with
  |builtin b=>cases b<;>simp only[nZ]<;>first|rfl|exact s
  |_=>rfl
 |alloc t=>rfl|box t x=>rfl|store t x y=>rfl|_=>exact Uf (P:=P) h
end
theorem nO(fr:Fr){d a:Nat}(h:d≠a)(x y:AV):(fr.put (some d) x).put (some a) y=(fr.put (some a) y).put (some d) x:=by
 simp only[Fr.put]
 congr 1
 grind[gN]
section
variable{P:Program} {T:eK} {E:List Nat} {ops:List Oper} {opsA:Array Oper} {q:Qt} {soft:Bool} {o:Oper} {K:Fr->dV->Prop} {fr:Fr} {H:dV}
def Mv{d:Nat}{v:AV}(J:d∉o.looksAt opsA)(A:o.dst≠some d)(h:hE P T E ops q soft o K (fr.put (some d) v) H):hE P T E ops q soft o (λf h=>K (f.put (some d) v) h) fr H:=by
 have j:∀x∈o.op.operands,ev T (fr.put (some d) v) x=ev T fr x:=by
  intro x D;refine DX λt R=>?_;subst R;rw[Fr.ub,dK];rintro he;injection he with he;subst he;exact J (alu _ (ajP.2 ⟨.tmp d,by simpa using D,rfl⟩))
 have F:nZ P T E ops q soft (fr.put (some d) v) H o=nZ P T E ops q soft fr H o:=yJ j (λt x _=>⟨λb g off _=>⟨rfl,rfl⟩,λ_ _ _=>rfl⟩) λ_ _ _ _ _=>rfl;clear J;obtain⟨dst,op,type,pos,after,guard⟩:=o;simp only at A
 have a:∀x:AV,((fr.put (some d) v).put dst x)=((fr.put dst x).put (some d) v):=by
  intro x;cases dst with
  |none=>rfl|some u=>exact nO fr (λe=>A (by rw[e])) v x
 have n:∀cs,ly E dst cs K (fr.put (some d) v) H->ly E dst cs (λf h=>K (f.put (some d) v) h) fr H:=by
  intro cs w;unfold ly at*
  split at w
  .rename_i u;have C:u≠d:=λe=>A (by rw[e])
   have B:∀y:AV,gN (gN fr.env d v) u y=gN (gN fr.env u y) d v:=by
    intro y;have:=congrArg Fr.env (nO fr C.symm v y);exact this
   split at w
   .rename_i G;rw[dO G];simp only[Fr.put] at w|-;rw[<-B];exact w
   .rename_i G;rw[dK G];simp only[Fr.put] at w|-;rw[<-B];exact w
  .exact w.elim
 cases op with
 |alloc t=>
  simp only[hE] at h|-
  split at h
  .exact⟨h.1,n _ h.2⟩
  .exact h.elim
 |box t x=>
  simp only[hE] at h|-;rw[j x (by simp[Op.operands])] at h;exact⟨h.1,h.2.1,n _ h.2.2⟩
 |store t x y=>
  simp only[hE] at h|-;rw[j x (by simp[Op.operands]),j y (by simp[Op.operands])] at h;refine⟨h.1,h.2.1,h.2.2.1,?_⟩;have S:=h.2.2.2;unfold mj at*;exact S
 |call c=>
  obtain⟨callee,args,tys⟩:=c;cases callee with
  |builtin b=>
   have i:∀x∈args.toList,ev T (fr.put (some d) v) x=ev T fr x:=λx D=>j x (by simp[Op.operands,Call.operands,yd.1 D])
   cases b<;>first
    |(simp only[hE] at h|-
      rw[F] at h
      split at h
      .rw[<-a];exact h
      .exact h.elim)
    |(simp only[hE] at h|-
      unfold nq at*
      split at h
      .rename_i u s x t U k L;have C:u≠d:=λe=>A (by rw[e]);simp only at k;rw[i s (by rw[k];simp),i x (by rw[k];simp)] at h
       split at h
       .rename_i e sz tag l M m N O Q;obtain⟨g1,g2,g3,g4,g5⟩:=h;refine⟨g1,g2,g3,g4,?_⟩;have I:pQ (fr.put (some d) v) tag l=pQ fr tag l:=rfl;rw[I] at g5
        split at g5
        .rename_i w;rw[dO w]
         have:grown (fr.put (some d) v) u tag l m=(grown fr u tag l m).put (some d) v:=by
          have:=congrArg Fr.env (nO fr C.symm v (.slice (.loc u (fr.fy u+1)) (l++m)));simp only[grown,Fr.put] at this|-;rw[this]
         show K ((grown fr u tag l m).put (some d) v) H;rw[<-this];exact g5
        .rename_i w;rw[dK w];refine⟨g5.1,?_⟩;show K ((fr.put (some u) (.slice .gK l)).put (some d) v) H;rw[<-a];exact g5.2
       .exact h.elim
      .exact h.elim)
  |value f=>
   simp only[hE] at h|-
   have i:(args.toList.map λx=>(ev T (fr.put (some d) v) x).norm)=args.toList.map λx=>(ev T fr x).norm:=
    th λx D=>by rw[j x (by simp[Op.operands,Call.operands,yd.1 D])]
   rw[i,j f (by simp[Op.operands,Call.operands])] at h;obtain⟨r,H',N,O,Q⟩:=h;refine⟨r,H',N,O,?_⟩;rw[<-a];exact Q
  |invoke r m=>exact h
 |_=>
  simp only[hE] at h|-;rw[F] at h
  split at h
  .rw[<-a];exact h
  .exact h.elim
end
end Go.lD
