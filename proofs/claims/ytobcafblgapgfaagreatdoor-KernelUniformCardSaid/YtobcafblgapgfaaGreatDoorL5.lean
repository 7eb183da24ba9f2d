/- Part of the proof of KernelUniform: layer. -/
import Derived.Test.YtobcafblgapgfaaGreatDoorL4
set_option linter.all false
namespace Go.mS
open Go
def rootOf(ops:List Oper):Nat->Nat->Option Nat
 |0,_=>none|f+1,t=>
  match ops.find? (λo=>o.dst==some t)with
  |none=>some t|some o=>match o.op with
   |.fieldAddr _ (.tmp y) _=>rootOf ops f y|.indexAddr _ (.tmp y) _=>rootOf ops f y|.nilCheck (.tmp y)=>rootOf ops f y|.move (.tmp y)=>rootOf ops f y|.alloc _=>some t|.box _ _=>some t|_=>none
def Df(ops:List Oper):Operand->Option Nat
 |.tmp t=>rootOf ops (ops.length+1) t|_=>none
def re(ops:List Oper)(x:Operand)(v:AV):Bool:=
 match v with
 |.eB b _ _=>Df ops x==some b|_=>true
def UG:AV->Bool
 |.fE _ _=>true|_=>false
def ZU:AV->Bool
 |.eB _ _ _=>true|_=>false
inductive Sz where
 |val|load (r:Option Nat)|alloc (d:Option Nat)|AO|app|Jw (r:Option Nat)
 deriving DecidableEq
def gZ(E:List Nat)(ops:List Oper)(o:Oper):Sz:=
 match o.op with
 |.load _ x=>.load (Df ops x)|.lookup _ _ _ _=>.load none|.alloc _=>match o.dst with|some d=>if E.contains d then .AO else .alloc (some d)|none=>.AO
 |.box _ _=>match o.dst with|some d=>if E.contains d then .AO else .alloc (some d)|none=>.AO
 |.store _ x _=>.Jw (Df ops x)|.call c=>match c.callee with|.builtin .append=>.app|.builtin _=>.val|_=>.AO
 |_=>.val
def vU:Sz->Sz->Bool
 |.val,_=>true|_,.val=>true|.load _,.load _=>true|.load r,.alloc d=>r !=d|.alloc d,.load r=>r !=d|.load _,.app=>true|.app,.load _=>true|.load _,.AO=>true|.AO,.load _=>true|.load r,.Jw a=>r !=a|.Jw a,.load r=>r !=a|.alloc _,.alloc _=>true|.alloc _,.app=>true|.app,.alloc _=>true|.alloc _,.AO=>true|.AO,.alloc _=>true|.app,.AO=>true|.AO,.app=>true|_,_=>false
def pC(P:Program)(T:fg)(E:List Nat)(ops:List Oper)(q soft:Bool)(fr:Fr)(H:eD)(o:Oper):Option AV:=
 match o.op with
 |.load t x=>if re ops x (ev T fr x)&&(!soft||q||!UG (ev T fr x))then ua P fr H t (ev T fr x)else none|.lookup t x i ok=>if !soft||q then uy P H t (ev T fr x) (ev T fr i) ok else none|.buildSlice t n ps=>if o.dst.any E.contains=true then none else nA P t n (ps.toList.map λp=>(p.1,ev T fr p.2))|.alloc _=>none|.box _ _=>none|.store _ _ _=>none|.call c=>match c.callee with
  |.builtin .append=>none|.builtin _=>vL P T fr c|_=>none
 |_=>ya P T fr o
def qj(P:Program)(T:fg)(b:AV)(args:List AV)(H:eD)(r:AV)(H':eD):Prop:=rb P T b args H λc a=>c=r/\a=H'
def ib(P:Program)(T:fg)(E:List Nat)(ops:List Oper)(q soft:Bool)(o:Oper)(K:Fr->eD->Prop)(fr:Fr)(H:eD):Prop:=
 match o.op with
 |.alloc t=>match lv P t with
  |some z=>(soft=true->o.dst.any E.contains=false)/\la E o.dst z K fr H|none=>False
 |.box _ x=>fX (ev T fr x)=true/\(soft=true->o.dst.any E.contains=false)/\la E o.dst (ev T fr x).cells K fr H|.store t x y=>o.dst=none/\re ops x (ev T fr x)=true/\(soft=true->ZU (ev T fr x)=true)/\nj P t (ev T fr x) (ev T fr y) K fr H|.call c=>match c.callee with
  |.builtin .append=>nL P T c o.dst K fr H|.builtin _=>match pC P T E ops q soft fr H o with
   |some v=>K (fr.put o.dst v) H|none=>False
  |.value f=>∃r H',qj P T (ev T fr f) (c.args.toList.map λx=>(ev T fr x).norm) H r H'/\(soft=true->q=true->H'=H)/\K (fr.put o.dst r) H'|.invoke _ _=>False
 |_=>match pC P T E ops q soft fr H o with
  |some v=>K (fr.put o.dst v) H|none=>False
section
variable{P:Program} {T:fg} {E:List Nat} {ops:List Oper} {q soft:Bool} {o:Oper} {K K':Fr->eD->Prop} {fr:Fr} {H:eD}
def DR{dst:Option Nat}{cs:List AV}(b:∀fr H,K fr H->K' fr H)(h:la E dst cs K fr H):la E dst cs K' fr H:=by
 unfold la at*
 split at h
 ·split at h
  ·rename_i a;rw[ee a];exact b _ _ h
  ·rename_i a;rw[ea a];exact b _ _ h
 ·exact h.elim
def Li{t:TypeId}{x v:AV}(a:∀fr H,K fr H->K' fr H)(h:nj P t x v K fr H):nj P t x v K' fr H:=by
 unfold nj at*
 split at h
 ·exact h.elim
 ·split at h
  ·split at h
   ·exact⟨h.1,h.2.1,h.2.2.1,h.2.2.2.1,a _ _ h.2.2.2.2⟩
   ·exact h.elim
  ·split at h
   ·exact⟨h.1,h.2.1,h.2.2.1,h.2.2.2.1,a _ _ h.2.2.2.2⟩
   ·exact h.elim
  ·exact h.elim
def Js{c:Call}{dst:Option Nat}(d:∀fr H,K fr H->K' fr H)(h:nL P T c dst K fr H):nL P T c dst K' fr H:=by
 unfold nL at*
 split at h
 ·split at h
  ·obtain⟨e,f,g,i,a⟩:=h;refine⟨e,f,g,i,?_⟩
   split at a
   ·rename_i b;rw[ee b];exact d _ _ a
   ·rename_i b;rw[ea b];exact⟨a.1,d _ _ a.2⟩
  ·exact h.elim
 ·exact h.elim
def oA(P:Program)(T:fg)(E:List Nat)(ops:List Oper)(q soft:Bool)(o:Oper)(fr:Fr)(H:eD)(fr':Fr)(H':eD):Prop:=ib P T E ops q soft o (λf h=>f=fr'/\h=H') fr H
def F2{dst:Option Nat}{cs:List AV}(h:la E dst cs K fr H):∃fr' H',la E dst cs (λf h=>f=fr'/\h=H') fr H/\K fr' H':=by
 unfold la at*
 split at h
 ·split at h
  ·rename_i a;exact⟨_,_,by rw[ee a];exact⟨rfl,rfl⟩,h⟩
  ·rename_i a;exact⟨_,_,by rw[ea a];exact⟨rfl,rfl⟩,h⟩
 ·exact h.elim
def NY{t:TypeId}{x v:AV}(h:nj P t x v K fr H):∃fr' H',nj P t x v (λf h=>f=fr'/\h=H') fr H/\K fr' H':=by
 unfold nj at*
 split at h
 ·exact h.elim
 ·split at h
  ·split at h
   ·exact⟨_,_,⟨h.1,h.2.1,h.2.2.1,h.2.2.2.1,rfl,rfl⟩,h.2.2.2.2⟩
   ·exact h.elim
  ·split at h
   ·exact⟨_,_,⟨h.1,h.2.1,h.2.2.1,h.2.2.2.1,rfl,rfl⟩,h.2.2.2.2⟩
   ·exact h.elim
  ·exact h.elim
def KX{c:Call}{dst:Option Nat}(h:nL P T c dst K fr H):∃fr' H',nL P T c dst (λf h=>f=fr'/\h=H') fr H/\K fr' H':=by
 unfold nL at*
 split at h
 ·split at h
  ·obtain⟨d,e,g,i,a⟩:=h
   split at a
   ·rename_i b;exact⟨_,_,⟨d,e,g,i,by rw[ee b];exact⟨rfl,rfl⟩⟩,a⟩
   ·rename_i b;exact⟨_,_,⟨d,e,g,i,by rw[ea b];exact⟨a.1,rfl,rfl⟩⟩,a.2⟩
  ·exact h.elim
 ·exact h.elim
def xq(h:ib P T E ops q soft o K fr H):∃fr' H',oA P T E ops q soft o fr H fr' H'/\K fr' H':=by
 unfold oA ib at*
 split at h
 ·split at h
  ·obtain⟨fr',H',a,b⟩:=F2 h.2;exact⟨fr',H',⟨h.1,a⟩,b⟩
  ·exact h.elim
 ·obtain⟨fr',H',a,b⟩:=F2 h.2.2;exact⟨fr',H',⟨h.1,h.2.1,a⟩,b⟩
 ·obtain⟨fr',H',a,b⟩:=NY h.2.2.2;exact⟨fr',H',⟨h.1,h.2.1,h.2.2.1,a⟩,b⟩
 ·split at h
  ·exact KX h
  ·split at h
   ·exact⟨_,_,⟨rfl,rfl⟩,h⟩
   ·exact h.elim
  ·obtain⟨r,H',a,b,c⟩:=h;exact⟨_,_,⟨r,H',a,b,rfl,rfl⟩,c⟩
  ·exact h.elim
 ·split at h
  ·exact⟨_,_,⟨rfl,rfl⟩,h⟩
  ·exact h.elim
def F5(a:∀fr H,K fr H->K' fr H)(h:ib P T E ops q soft o K fr H):ib P T E ops q soft o K' fr H:=by
 unfold ib at*
 split at h
 ·split at h
  ·exact⟨h.1,DR a h.2⟩
  ·exact h.elim
 ·exact⟨h.1,h.2.1,DR a h.2.2⟩
 ·exact⟨h.1,h.2.1,h.2.2.1,Li a h.2.2.2⟩
 ·split at h
  ·exact Js a h
  ·split at h
   ·exact a _ _ h
   ·exact h.elim
  ·obtain⟨r,H',b,c,d⟩:=h;exact⟨r,H',b,c,a _ _ d⟩
  ·exact h.elim
 ·split at h
  ·exact a _ _ h
  ·exact h.elim
def zB{fr':Fr}{H':eD}(h:oA P T E ops q soft o fr H fr' H')(a:K fr' H'):ib P T E ops q soft o K fr H:=
 F5 (λf h ⟨b,c⟩=>by subst b;subst c;exact a) h
def DU(h:ib P T E ops q soft o K fr H):sn P T E o K fr H:=by
 obtain⟨dst,op,type,pos,after,guard⟩:=o;cases op with
 |alloc t=>
  simp only[ib,sn] at h|-
  split at h
  ·rename_i z g;rw[g];exact h.2
  ·exact h.elim
 |box t x=>
  simp only[ib,sn] at h|-;exact⟨h.1,h.2.2⟩
 |store t x y=>
  simp only[ib,sn] at h|-;exact⟨h.1,h.2.2.2⟩
 |load t x=>
  simp only[ib,sn,pC] at h|-
  split at h
  ·rename_i v a
   split at a
   ·rw[a];exact h
   ·cases a
  ·exact h.elim
 |buildSlice t n ps=>
  simp only[ib,sn,pC] at h|-
  split at h
  ·rename_i v a
   split at a
   ·cases a
   ·rename_i j;rw[a];simp only[Fy];rw[ea j];exact h
  ·exact h.elim
 |lookup t x i ok=>
  simp only[ib,sn,pC] at h|-
  split at h
  ·rename_i v a
   split at a
   ·rw[a];exact h
   ·cases a
  ·exact h.elim
 |convert s d x=>
  simp only[ib,sn,pC,ya,QV] at h|-
  split at h
  ·rename_i v a;rw[a];exact h
  ·exact h.elim
 |call c=>
  obtain⟨callee,args,MZ⟩:=c;cases callee with
  |builtin b=>cases b<;>simp only[ib,sn,pC] at h|-<;>first|exact .inl (.inl h)|exact h
  |value f=>
   simp only[ib,sn] at h|-;obtain⟨r,H',e,w,k⟩:=h;unfold qj rb at e;unfold rb
   split at e
   ·exact e.mono λA l ⟨p,u⟩=>by subst p;subst u;exact k
   ·exact e
  |invoke r m=>simp only[ib] at h
 |_=>
  simp only[ib,sn,pC] at h|-
  first
   |exact h
   |(simp only[ya] at h)
end
section
variable{P:Program} {T:fg} {fr fr':Fr}
def Ll{x:Operand}(h:∀t,x=.tmp t->fr.env t=fr'.env t):ev T fr x=ev T fr' x:=by
 cases x with
 |tmp t=>exact h t rfl|_=>rfl
def Jc{xs:List Operand}(h:∀x∈xs,ev T fr x=ev T fr' x):xs.map (ev T fr)=xs.map (ev T fr'):=xx h
def El{c:Call}(h:∀x∈c.args.toList,ev T fr x=ev T fr' x):vL P T fr c=vL P T fr' c:=by
 unfold vL
 split
 ·split
  ·rename_i t x d b;rw[h x (xQ.2 (RM b))]
  ·rfl
 ·split
  ·rename_i x l a;rw[a] at h;rw[h x (by simp),Jc λy hy=>h y (by simp[hy])]
  ·rfl
 ·split
  ·rename_i x l a;rw[a] at h;rw[h x (by simp),Jc λy hy=>h y (by simp[hy])]
  ·rfl
 ·rfl
def NG{o:Oper}(h:∀x∈o.op.operands,ev T fr x=ev T fr' x):ya P T fr o=ya P T fr' o:=by
 obtain⟨dst,op,type,pos,after,guard⟩:=o
 have opt:∀(x:Option Operand),(∀y,x=some y->ev T fr y=ev T fr' y)->x.map (ev T fr)=x.map (ev T fr'):=by
  intro x a;cases x with
  |none=>rfl|some y=>simp[a y rfl]
 cases op<;>simp only[Op.operands] at h<;>simp only[ya]
 case move x=>rw[h x (by simp)]
 case assign x=>rw[h x (by simp)]
 case pick c x y=>rw[h c (by simp),h x (by simp),h y (by simp)]
 case build t ps=>
  have:(ps.toList.map λp=>(p.1,ev T fr p.2))=ps.toList.map λp=>(p.1,ev T fr' p.2):=
   xx λp b=>by rw[h p.2 (by simp;exact⟨p.1,by simpa using b⟩)]
  rw[this]
 case binOp op t x y k=>rw[h x (by simp),h y (by simp)]
 case unOp op t x=>rw[h x (by simp)]
 case convert s d x=>rw[h x (by simp)]
 case makeFunc fn f c=>
  have e:(f.toList.map λx=>(ev T fr x).norm)=f.toList.map λx=>(ev T fr' x).norm:=xx λx a=>by rw[h x (by simp[xQ.1 a])]
  have g:(c.toList.map λx=>(ev T fr x).norm)=c.toList.map λx=>(ev T fr' x).norm:=xx λx a=>by rw[h x (by simp[xQ.1 a])]
  rw[e,g]
 case fieldAddr t x i=>rw[h x (by simp)]
 case field t x i=>rw[h x (by simp)]
 case indexAddr t x i=>rw[h x (by simp),h i (by simp)]
 case index t x i=>rw[h x (by simp),h i (by simp)]
 case slice t x lo hi j=>rw[h x (by simp),opt lo λy hy=>h y (by simp[hy]),opt hi λy hy=>h y (by simp[hy]),opt j λy hy=>h y (by simp[hy])]
 case extract x i=>rw[h x (by simp)]
 case nilCheck x=>rw[h x (by simp)]
 case makeInterface t x=>rw[h x (by simp)]
 case call c=>exact El λx a=>h x (by simp[Call.operands,xQ.1 a])
def Lr{H H':eD}{t:TypeId}{x:AV}(a:∀b g off,x=.eB b g off->fr.box b=fr'.box b/\fr.gen b=fr'.gen b)(c:UG x=true->H=H'):ua P fr H t x=ua P fr' H' t x:=by
 cases x with
 |eB b g off=>
  obtain⟨d,e⟩:=a b g off rfl;simp only[ua,d,e]
 |fE o off=>rw[c rfl];rfl|_=>rfl
def A9{E:List Nat}{ops:List Oper}{q soft:Bool}{H H':eD}{o:Oper}(h:∀x∈o.op.operands,ev T fr x=ev T fr' x)
  (d:∀t x,o.op=.load t x->(∀b g off,ev T fr x=.eB b g off->fr.box b=fr'.box b/\fr.gen b=fr'.gen b)/\(UG (ev T fr x)=true->H=H')) (e:∀t x i ok,o.op=.lookup t x i ok->H=H'):pC P T E ops q soft fr H o=pC P T E ops q soft fr' H' o:=by
 obtain⟨dst,op,type,pos,after,guard⟩:=o;cases op with
 |load t x=>
  have a:=h x (by simp[Op.operands]);obtain⟨f,j⟩:=d t x rfl;simp only[pC];rw[Lr f j,a]
 |lookup t x i ok=>
  simp only[pC];rw[e t x i ok rfl,h x (by simp[Op.operands]),h i (by simp[Op.operands])]
 |buildSlice t n ps=>
  simp only[pC]
  have:(ps.toList.map λp=>(p.1,ev T fr p.2))=ps.toList.map λp=>(p.1,ev T fr' p.2):=
   xx λp k=>by rw[h p.2 (by simp[Op.operands];exact⟨p.1,by simpa using k⟩)]
  rw[this]
 |call c=>
  obtain⟨callee,args,MZ⟩:=c
  have l:vL P T fr {callee:=callee,args:=args,argTypes:=MZ}=vL P T fr' {callee:=callee,args:=args,argTypes:=MZ}:=
   El λx a=>h x (by simp[Op.operands,Call.operands,xQ.1 a])
  cases callee with
  |builtin b=>cases b<;>simp only[pC]<;>first|rfl|exact l
  |_=>rfl
 |alloc t=>rfl|box t x=>rfl|store t x y=>rfl|_=>exact NG (P:=P) h
end
def r_(fr:Fr){d a:Nat}(h:d≠a)(x y:AV):(fr.put (some d) x).put (some a) y=(fr.put (some a) y).put (some d) x:=by
 simp only[Fr.put]
 congr 1
 funext j
 simp only[hQ]
 by_cases c:j=a
 ·subst c;rw[ee rfl,ea (λe=>h e.symm),ee rfl]
 ·rw[ea c]
  by_cases b:j=d
  ·rw[ee b,ee b]
  ·rw[ea b,ea b,ea c]
section
variable{P:Program} {T:fg} {E:List Nat} {ops:List Oper} {opsA:Array Oper} {q soft:Bool} {o:Oper} {K:Fr->eD->Prop} {fr:Fr} {H:eD}
def I4{d:Nat}{v:AV}(G:d∉o.looksAt opsA)(w:o.dst≠some d)(h:ib P T E ops q soft o K (fr.put (some d) v) H):ib P T E ops q soft o (λf h=>K (f.put (some d) v) h) fr H:=by
 have j:∀x∈o.op.operands,ev T (fr.put (some d) v) x=ev T fr x:=by
  intro x B;refine Ll λt O=>?_;subst O;rw[Fr.Cu,ea];rintro he;injection he with he;subst he;exact G (TY _ (X'.2 ⟨.tmp d,by simpa using B,rfl⟩))
 have C:pC P T E ops q soft (fr.put (some d) v) H o=pC P T E ops q soft fr H o:=A9 j (λt x _=>⟨λb g off _=>⟨rfl,rfl⟩,λ_=>rfl⟩) λ_ _ _ _ _=>rfl;clear G;obtain⟨dst,op,type,pos,after,guard⟩:=o;simp only at w
 have a:∀x:AV,((fr.put (some d) v).put dst x)=((fr.put dst x).put (some d) v):=by
  intro x;cases dst with
  |none=>rfl|some p=>exact r_ fr (λe=>w (by rw[e])) v x
 have n:∀cs,la E dst cs K (fr.put (some d) v) H->la E dst cs (λf h=>K (f.put (some d) v) h) fr H:=by
  intro cs u;unfold la at*
  split at u
  ·rename_i p;have A:p≠d:=λe=>w (by rw[e])
   have z:∀y:AV,hQ (hQ fr.env d v) p y=hQ (hQ fr.env p y) d v:=by
    intro y;have:=congrArg Fr.env (r_ fr A.symm v y);exact this
   split at u
   ·rename_i D;rw[ee D];simp only[Fr.put] at u|-;rw[<-z];exact u
   ·rename_i D;rw[ea D];simp only[Fr.put] at u|-;rw[<-z];exact u
  ·exact u.elim
 cases op with
 |alloc t=>
  simp only[ib] at h|-
  split at h
  ·exact⟨h.1,n _ h.2⟩
  ·exact h.elim
 |box t x=>
  simp only[ib] at h|-;rw[j x (by simp[Op.operands])] at h;exact⟨h.1,h.2.1,n _ h.2.2⟩
 |store t x y=>
  simp only[ib] at h|-;rw[j x (by simp[Op.operands]),j y (by simp[Op.operands])] at h;refine⟨h.1,h.2.1,h.2.2.1,?_⟩;have Q:=h.2.2.2;unfold nj at*;exact Q
 |call c=>
  obtain⟨callee,args,MZ⟩:=c;cases callee with
  |builtin b=>
   have i:∀x∈args.toList,ev T (fr.put (some d) v) x=ev T fr x:=λx B=>j x (by simp[Op.operands,Call.operands,xQ.1 B])
   cases b<;>first
    |(simp only[ib] at h|-
      rw[C] at h
      split at h
      ·rw[<-a];exact h
      ·exact h.elim)
    |(simp only[ib] at h|-
      unfold nL at*
      split at h
      ·rename_i p s x t R k I;have A:p≠d:=λe=>w (by rw[e]);simp only at k;rw[i s (by rw[k];simp),i x (by rw[k];simp)] at h
       split at h
       ·rename_i e sz tag l J m L M N;obtain⟨g1,g2,g3,g4,g5⟩:=h;refine⟨g1,g2,g3,g4,?_⟩;have F:pL (fr.put (some d) v) tag l=pL fr tag l:=rfl;rw[F] at g5
        split at g5
        ·rename_i u;rw[ee u]
         have:grown (fr.put (some d) v) p tag l m=(grown fr p tag l m).put (some d) v:=by
          have:=congrArg Fr.env (r_ fr A.symm v (.slice (.loc p (fr.fN p+1)) (l++m)));simp only[grown,Fr.put] at this|-;rw[this]
         show K ((grown fr p tag l m).put (some d) v) H;rw[<-this];exact g5
        ·rename_i u;rw[ea u];refine⟨g5.1,?_⟩;show K ((fr.put (some p) (.slice .iN l)).put (some d) v) H;rw[<-a];exact g5.2
       ·exact h.elim
      ·exact h.elim)
  |value f=>
   simp only[ib] at h|-
   have i:(args.toList.map λx=>(ev T (fr.put (some d) v) x).norm)=args.toList.map λx=>(ev T fr x).norm:=
    xx λx B=>by rw[j x (by simp[Op.operands,Call.operands,xQ.1 B])]
   rw[i,j f (by simp[Op.operands,Call.operands])] at h;obtain⟨r,H',L,M,N⟩:=h;refine⟨r,H',L,M,?_⟩;rw[<-a];exact N
  |invoke r m=>exact h
 |_=>
  simp only[ib] at h|-;rw[C] at h
  split at h
  ·rw[<-a];exact h
  ·exact h.elim
end
end Go.mS
