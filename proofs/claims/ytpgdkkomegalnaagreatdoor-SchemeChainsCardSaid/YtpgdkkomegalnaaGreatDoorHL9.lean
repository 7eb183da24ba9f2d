/- Part of the proof of SchemeChains: layer. -/
import Derived.Test.YtpgdkkomegalnaaGreatDoorHL8
set_option linter.all false
namespace Go.lD
open Go Go.fP
variable{D' E:List Nat}{H H':dV}{P:Program}{T:eK}{a r s v:AV}{as:Array Operand}{c f x y:Operand}{d e i j n off sz:Nat}{fy:Nat->Nat}{g:FuncId}{hi lo:Option AV}{hi':Option Nat}{l:List AV}{o op:BinOp}{ops:Array Oper}{ps:Array (Nat×Operand)}{qU:Nat->Option Nat}{rest:List Oper}{soft:Bool}{t u:TypeId}{tag:Tag}{ts:Array TypeId}{α:Type}
def Cn(P:Program)(t:TypeId)(s x:AV)(d:Nat)(K:Fr->dV->Prop)(fr:Fr)(H:dV):Prop:=
 match oA P t,s,x with
 |some (_,sz),.slice tag l,.slice _ m=>
  lG sz l=true/\lG sz m=true/\l.length+m.length<=kG/\(if pQ fr tag l then K (grown fr d tag l m) H else m=[]/\K (fr.put (some d) (.slice .gK l)) H)
 |_,_,_=>False
theorem Dw{t:Nat}{K:Fr->dV->Prop}{fr:Fr}:nq P T {callee:=.builtin .append,args:=#[x,y],argTypes:=#[t,t]} (some d) K fr H=Cn P t (ev T fr x) (ev T fr y) d K fr H:=by
 unfold nq Cn;simp only;cases oA P t with
 |none=>rfl|some p=>grind[ev]
def abj(P:Program)(t:TypeId)(s x:AV)(d:Nat)(K:Fr->dV->Prop)(fr:Fr)(H:dV):Prop:=
 match oA P t,x with
 |some (e,sz),.slice _ m=>
  lG sz m=true/\(jH P e).isSome=true/\0<m.length/\match s with
  |.slice .full l=>lG sz l=true/\l.length+m.length<=kG/\∀cap,l.length+m.length<=cap->K (zb fr d (l.flatMap AV.cells++m.flatMap AV.cells++yZ ((cap-(l.length+m.length))*sz)) (l.length+m.length) cap) H|.xQ b g len cap=>g=fr.gen b/\len+m.length<=kG/\match fr.box b with
   |some cs=>cs.length=cap*sz/\(len+m.length<=cap->K {fr with env:=gN fr.env d (.xQ b g (len+m.length) cap),box:=gN fr.box b (some (setCells cs (len*sz) (m.flatMap AV.cells)))} H)/\(∀a,cap<len+m.length->len+m.length<=a->K (zb fr d (cs.take (len*sz)++m.flatMap AV.cells++yZ ((a-(len+m.length))*sz)) (len+m.length) a) H)|none=>False
  |_=>False
 |_,_=>False
theorem SK{t:Nat}{K:Fr->dV->Prop}{fr:Fr}:D9 P T {callee:=.builtin .append,args:=#[x,y],argTypes:=#[t,t]} (some d) K fr H=abj P t (ev T fr x) (ev T fr y) d K fr H:=by
 unfold D9 abj;simp only;cases oA P t with
 |none=>rfl|some p=>grind[ev]
def acB(P:Program)(t:TypeId)(s x:AV)(d:Nat)(K:Fr->dV->Prop)(fr:Fr)(H:dV):Prop:=
 match oA P t,x with
 |some (e,sz),.slice _ m=>
  lG sz m=true/\(jH P e).isSome=true/\0<m.length/\match s with
  |.slice .full l=>lG sz l=true/\l.length+m.length<=kG/\∀cap,l.length+m.length<=cap->K (fr.put (some d) (.zF H.length 0 (l.length+m.length) cap)) (H++[l.flatMap AV.cells++m.flatMap AV.cells++yZ ((cap-(l.length+m.length))*sz)])|.Ps=>m.length<=kG/\∀cap,m.length<=cap->K (fr.put (some d) (.zF H.length 0 m.length cap)) (H++[m.flatMap AV.cells++yZ ((cap-m.length)*sz)])|.zF o off len cap=>off=0/\len+m.length<=kG/\match H[o]?with
   |some cs=>uZ cs=true/\cs.length=cap*sz/\(len+m.length<=cap->K (fr.put (some d) (.zF o 0 (len+m.length) cap)) (H.set o (setCells cs (len*sz) (m.flatMap AV.cells))))/\(∀a,cap<len+m.length->len+m.length<=a->K (fr.put (some d) (.zF H.length 0 (len+m.length) a)) (H++[cs.take (len*sz)++m.flatMap AV.cells++yZ ((a-(len+m.length))*sz)]))|none=>False
  |_=>False
 |_,_=>False
theorem CJ{t:Nat}{K:Fr->dV->Prop}{fr:Fr}:pS P T {callee:=.builtin .append,args:=#[x,y],argTypes:=#[t,t]} (some d) K fr H=acB P t (ev T fr x) (ev T fr y) d K fr H:=by
 unfold pS acB;simp only;cases oA P t with
 |none=>rfl|some p=>grind[ev]
def sV(P:Program)(t:TypeId)(s x:AV)(d:Nat)(K:Fr->dV->Prop)(fr:Fr)(H:dV):Prop:=(Cn P t s x d K fr H\/abj P t s x d K fr H)\/acB P t s x d K fr H
theorem NQ{t:Nat}{K:Fr->dV->Prop}{fr:Fr}:DS P T {callee:=.builtin .append,args:=#[x,y],argTypes:=#[t,t]} (some d) K fr H=False:=by
 refine propext ⟨λh=>?_,False.elim⟩;unfold DS at h;simp only at h
 split at h
 .rename_i a b _ _;obtain⟨_,_,hu,_⟩:=nC a
  grind
 .exact h
def hI(qU:Nat->Option Nat)(fy:Nat->Nat)(D:List Nat)(tag:Tag)(n:Nat):Prop:=
 tag=.full\/∃k g,k∈D/\tag=.loc k g/\g=fy k/\qU k=some n
def hI.full{D:List Nat}:hI qU fy D .full n:=.inl rfl
theorem hI.new{D:List Nat}(h:d∈D):hI (gN qU d (some n)) (gN fy d (fy d+1)) D (.loc d (fy d+1)) n:=
 .inr ⟨d,_,h,rfl,by simp[gN],by simp[gN]⟩
theorem hI.mono{D:List Nat}(h:hI qU fy D tag n)(a:∀k,k∈D->k∈D'):hI qU fy D' tag n:=by
 rcases h with h|⟨k,g,b,c⟩
 .exact .inl h
 .exact .inr ⟨k,g,a k b,c⟩
theorem hI.other{D:List Nat}{a:Tag}{n':Nat}{x:Option Nat}{y:Nat}(h:hI qU fy D tag n)(j:hI qU fy D' a n')
  (l:∀k,k∈D->k∉D') (o:d∉D):hI (gN (vt a qU) d x) (gN fy d y) D tag n:=by
 rcases h with h|⟨k,g,b,q,r,i⟩
 .exact .inl h
 .refine .inr ⟨k,g,b,q,?_,?_⟩
  .grind[gN]
  .have c:k≠d:=by rintro rfl;exact o b
   simp only[gN,c];rcases j with rfl|⟨k',s,f,rfl,_,_⟩
   .exact i
   .have:k≠k':=by rintro rfl;exact l k b f
    simp[vt,gN,this,i]
theorem hI.can{fr:Fr}{D:List Nat}(h:hI fr.qU fr.fy D tag n)(hn:n=l.length):pQ fr tag l=true:=by
 rcases h with rfl|⟨k,g,_,rfl,a,b⟩
 all_goals grind[pQ]
theorem Cn.own{t:Nat}{x:AV}{K:Fr->dV->Prop}{fr:Fr}{f:α->AV}(l m:List α){D:List Nat}{b:Tag}
  (h:hI fr.qU fr.fy D tag l.length) (i:oA P t=some (e,sz)) (j:∀x,(f x).cells.length=sz) (hlen:fM l m=true) (hs:s=.slice tag (l.map f)) (k:x=.slice b (m.map f))
  (o:K {fr with env:=gN fr.env d (.slice (.loc d (fr.fy d+1)) ((fW l m).map f)),qU:=gN (vt tag fr.qU) d (some (fW l m).length),fy:=gN fr.fy d (fr.fy d+1)} H):Cn P t s x d K fr H:=by
 subst hs;subst k;have n:=RS hlen
 have c:∀l:List α,lG sz (l.map f)=true:=λl=>by cases l with|nil=>rfl|cons a l=>simp[lG,j]
 unfold Cn;rw[i];refine⟨c l,c m,by simpa[kG,BR] using n,?_⟩;rw[dO (h.can abm)]
 grind[fW,grown]
def sV.own{t:Nat}{x:AV}{K:Fr->dV->Prop}{fr:Fr}{f:α->AV}(l m:List α){D:List Nat}{a:Tag}
  (h:hI fr.qU fr.fy D tag l.length) (b:oA P t=some (e,sz)) (c:∀x,(f x).cells.length=sz) (hlen:fM l m=true) (hs:s=.slice tag (l.map f)) (i:x=.slice a (m.map f))
  (j:K {fr with env:=gN fr.env d (.slice (.loc d (fr.fy d+1)) ((fW l m).map f)),qU:=gN (vt tag fr.qU) d (some (fW l m).length),fy:=gN fr.fy d (fr.fy d+1)} H):sV P t s x d K fr H:=
 .inl (.inl (Cn.own l m h b c hlen hs i j))
def kN(P:Program)(T:eK)(E:List Nat)(ops:Array Oper)(a:AV)(as:List AV)(d:Option Nat)(rest:List Oper)(K:Fr->dV->Prop)(fr:Fr)(H:dV):Prop:=
 oa P T a as H λr H'=>iI P T E ops rest K (fr.put d r) H'
def vn(P:Program)(T:eK)(E:List Nat)(ops:Array Oper)(q:Qt)(a:AV)(as:List AV)(d:Option Nat)(rest:List Oper)(K:Fr->dV->Prop)(fr:Fr)(H:dV):Prop:=
 if d.any E.contains then aaq P T q true a as d (rk P T E ops q rest K) fr H else∃r H',nu P T a as H r H'/\(QK q H H')/\rk P T E ops q rest K (fr.put d r) H'
theorem OR{q:Qt}{as:List AV}{d:Option Nat}{K:Fr->dV->Prop}{fr:Fr}(h:nu P T a as H r H')(b:soft=true->QK q H H')(c:K (fr.put d r) H'):aaq P T q soft a as d K fr H:=
 ⟨_,h,⟨r,H',rfl,rfl⟩,λj k ⟨f,i⟩=>by subst f;subst i;exact⟨b,c⟩⟩
theorem vn.of{q:Qt}{K:Fr->dV->Prop}{fr:Fr}{d:Option Nat}{as:List AV}(h:nu P T a as H r H')(b:QK q H H')(c:rk P T E ops q rest K (fr.put d r) H'):vn P T E ops q a as d rest K fr H:=by
 grind[vn,OR]
section
variable{P:Program} {T:eK} {E:List Nat} {ops:Array Oper} {q:Qt} {rest:List Oper} {K:Fr->dV->Prop} {fr:Fr} {H H':dV} {d:Option Nat} {ty:TypeId} {pos:String} {after:Array Edge}
def kN.fn{as:List AV}(h:eG P T g as H r H')(a:iI P T E ops rest K (fr.put d r) H'):kN P T E ops (.func (.func g) [] []) as d rest K fr H:=by
 unfold kN oa;simp only[yc];exact h.post a
def kN.GP{b c as a:List AV}(f:b++as++c=a)(h:eG P T g a H r H')(i:iI P T E ops rest K (fr.put d r) H'):kN P T E ops (.func (.func g) b c) as d rest K fr H:=by
 subst f;exact h.post i
def vn.fn{as:List AV}(h:eG P T g as H r H')(a:QK q H H')(b:rk P T E ops q rest K (fr.put d r) H'):vn P T E ops q (.func (.func g) [] []) as d rest K fr H:=by
 refine vn.of ?_ a b;unfold nu oa;simp only[yc];exact h
@[simp] theorem ajM:iI P T E ops [] K fr H=K fr H:=rfl
@[simp] theorem aiM:rk P T E ops q [] K fr H=K fr H:=rfl
@[simp] theorem aix:iI P T E ops ({dst:=d,op:=.move x,type:=ty,pos:=pos,after:=after,guard:=none}::rest) K fr H=iI P T E ops rest K (fr.put d (ev T fr x)) H:=rfl
@[simp] theorem afT:iI P T E ops ({dst:=d,op:=.assign x,type:=ty,pos:=pos,after:=after,guard:=none}::rest) K fr H=iI P T E ops rest K (fr.put d (ev T fr x)) H:=rfl
@[simp] theorem agR:iI P T E ops ({dst:=d,op:=.alloc t,type:=ty,pos:=pos,after:=after,guard:=none}::rest) K fr H=match jH P t with|some z=>ly E d z (iI P T E ops rest K) fr H|none=>False:=rfl
@[simp] theorem aj6:iI P T E ops ({dst:=d,op:=.box t x,type:=ty,pos:=pos,after:=after,guard:=none}::rest) K fr H=(fG (ev T fr x)=true/\ly E d (ev T fr x).cells (iI P T E ops rest K) fr H):=rfl
@[simp] theorem aiZ:iI P T E ops ({dst:=d,op:=.load t x,type:=ty,pos:=pos,after:=after,guard:=none}::rest) K fr H=match uy P fr H t (ev T fr x)with|some v=>iI P T E ops rest K (fr.put d v) H|none=>False:=rfl
@[simp] theorem agZ:iI P T E ops ({dst:=none,op:=.store t x y,type:=ty,pos:=pos,after:=after,guard:=none}::rest) K fr H=mj P t (ev T fr x) (ev T fr y) (iI P T E ops rest K) fr H:=by simp[iI,EP,rp]
@[simp] theorem XH{t:Nat}:iI P T E ops ({dst:=d,op:=.buildSlice t n ps,type:=ty,pos:=pos,after:=after,guard:=none}::rest) K fr H=match nE P t n (ps.toList.map λp=>(p.1,ev T fr p.2))with|some v=>J_ E d v (iI P T E ops rest K) fr H|none=>False:=rfl
@[simp] theorem aiz{E:List Nat}{d:Option Nat}{K:Fr->dV->Prop}{fr:Fr}{H:dV}:J_ E d v K fr H=if d.any E.contains then(match v with|.slice _ l=>K (fr.put d (.zF H.length 0 l.length l.length)) (H++[l.flatMap AV.cells])|_=>False)else K (fr.put d v) H:=rfl
@[simp] theorem afM{t d:Nat}:iI P T E ops ({dst:=some d,op:=.call {callee:=.builtin .append,args:=#[x,y],argTypes:=#[t,t]},type:=ty,pos:=pos,after:=after,guard:=none}::rest) K fr H=sV P t (ev T fr x) (ev T fr y) d (iI P T E ops rest K) fr H:=by
 simp only[iI,EP,rp];unfold sV;rw[<-Dw (T:=T),<-SK (T:=T),<-CJ (T:=T),NQ,false_or]
@[simp] theorem ai6:iI P T E ops ({dst:=d,op:=.call {callee:=.value f,args:=as,argTypes:=ts},type:=ty,pos:=pos,after:=after,guard:=none}::rest) K fr H=kN P T E ops (ev T fr f) (as.toList.map λx=>(ev T fr x).norm) d rest K fr H:=rfl
@[simp] theorem aki:iI P T E ops ({dst:=d,op:=.call {callee:=.builtin .len,args:=as,argTypes:=ts},type:=ty,pos:=pos,after:=after,guard:=none}::rest) K fr H=match xx P T fr {callee:=.builtin .len,args:=as,argTypes:=ts}with|some v=>iI P T E ops rest K (fr.put d v) H|none=>False:=rfl
@[simp] theorem akH:iI P T E ops ({dst:=d,op:=.call {callee:=.builtin .max,args:=as,argTypes:=ts},type:=ty,pos:=pos,after:=after,guard:=none}::rest) K fr H=match xx P T fr {callee:=.builtin .max,args:=as,argTypes:=ts}with|some v=>iI P T E ops rest K (fr.put d v) H|none=>False:=rfl
@[simp] theorem ai'{a b:Operand}:iI P T E ops ({dst:=d,op:=.pick c a b,type:=ty,pos:=pos,after:=after,guard:=none}::rest) K fr H=match zx P T fr {dst:=d,op:=.pick c a b,type:=ty,pos:=pos,after:=after,guard:=none}with|some v=>iI P T E ops rest K (fr.put d v) H|none=>False:=rfl
@[simp] theorem ahp:iI P T E ops ({dst:=d,op:=.build t ps,type:=ty,pos:=pos,after:=after,guard:=none}::rest) K fr H=match FW P t (ps.toList.map λp=>(p.1,ev T fr p.2))with|some v=>iI P T E ops rest K (fr.put d v) H|none=>False:=rfl
@[simp] theorem af9:iI P T E ops ({dst:=d,op:=.binOp o t x y u,type:=ty,pos:=pos,after:=after,guard:=none}::rest) K fr H=match Nh P o t y (ev T fr x) (ev T fr y)with|some v=>iI P T E ops rest K (fr.put d v) H|none=>False:=rfl
@[simp] theorem aiF{o:UnOp}:iI P T E ops ({dst:=d,op:=.unOp o t x,type:=ty,pos:=pos,after:=after,guard:=none}::rest) K fr H=match unA o (ev T fr x)with|some v=>iI P T E ops rest K (fr.put d v) H|none=>False:=rfl
@[simp] theorem abr{fn:Fn}{f c:Array Operand}:iI P T E ops ({dst:=d,op:=.makeFunc fn f c,type:=ty,pos:=pos,after:=after,guard:=none}::rest) K fr H=iI P T E ops rest K (fr.put d (.func fn (f.toList.map λx=>(ev T fr x).norm) (c.toList.map λx=>(ev T fr x).norm))) H:=rfl
@[simp] theorem YO{t:Nat}:iI P T E ops ({dst:=d,op:=.fieldAddr t x i,type:=ty,pos:=pos,after:=after,guard:=none}::rest) K fr H=match rO P t (ev T fr x) i with|some v=>iI P T E ops rest K (fr.put d v) H|none=>False:=rfl
@[simp] theorem aag{i:Operand}:iI P T E ops ({dst:=d,op:=.indexAddr t x i,type:=ty,pos:=pos,after:=after,guard:=none}::rest) K fr H=match gL P t (ev T fr x) (ev T fr i)with|some v=>iI P T E ops rest K (fr.put d v) H|none=>False:=rfl
@[simp] theorem ahl{lo hi a:Option Operand}:iI P T E ops ({dst:=d,op:=.slice t x lo hi a,type:=ty,pos:=pos,after:=after,guard:=none}::rest) K fr H=match pL P t (ev T fr x) (lo.map (ev T fr)) (hi.map (ev T fr)) (a.map (ev T fr))with|some v=>iI P T E ops rest K (fr.put d v) H|none=>False:=rfl
@[simp] theorem ad8:iI P T E ops ({dst:=d,op:=.extract x i,type:=ty,pos:=pos,after:=after,guard:=none}::rest) K fr H=match zx P T fr {dst:=d,op:=.extract x i,type:=ty,pos:=pos,after:=after,guard:=none}with|some v=>iI P T E ops rest K (fr.put d v) H|none=>False:=rfl
@[simp] theorem aci:iI P T E ops ({dst:=d,op:=.nilCheck x,type:=ty,pos:=pos,after:=after,guard:=none}::rest) K fr H=match zx P T fr {dst:=d,op:=.nilCheck x,type:=ty,pos:=pos,after:=after,guard:=none}with|some v=>iI P T E ops rest K (fr.put d v) H|none=>False:=rfl
@[simp] theorem acH:iI P T E ops ({dst:=d,op:=.makeMap t none,type:=ty,pos:=pos,after:=after,guard:=none}::rest) K fr H=I' d (iI P T E ops rest K) fr H:=rfl
@[simp] theorem ZA{i:Operand}:iI P T E ops ({dst:=none,op:=.mapUpdate t x i y,type:=ty,pos:=pos,after:=after,guard:=none}::rest) K fr H=sG P t (ev T fr x) (ev T fr i) (ev T fr y) (iI P T E ops rest K) fr H:=by simp[iI,EP,rp]
@[simp] theorem afb{i:Operand}:iI P T E ops ({dst:=none,op:=.insert t x i y,type:=ty,pos:=pos,after:=after,guard:=none}::rest) K fr H=sG P t (ev T fr x) (ev T fr i) (ev T fr y) (iI P T E ops rest K) fr H:=by simp[iI,EP,rp]
@[simp] theorem ahz:iI P T E ops ({dst:=d,op:=.range t x,type:=ty,pos:=pos,after:=after,guard:=none}::rest) K fr H=JK P t (ev T fr x) d (iI P T E ops rest K) fr H:=rfl
@[simp] theorem agV:iI P T E ops ({dst:=d,op:=.entry x,type:=ty,pos:=pos,after:=after,guard:=none}::rest) K fr H=match Fb (ev T fr x) H with|some v=>iI P T E ops rest K (fr.put d v) H|none=>False:=rfl
@[simp] theorem Xf:iI P T E ops ({dst:=d,op:=.next x false,type:=ty,pos:=pos,after:=after,guard:=none}::rest) K fr H=Mz (ev T fr x) d (iI P T E ops rest K) fr H:=rfl
@[simp] theorem agI{op:Op}{want:Bool}:iI P T E ops ({dst:=d,op:=op,type:=ty,pos:=pos,after:=after,guard:=some (j,want)}::rest) K fr H=match(ops[j]?).bind (·.dst)with
 |some g=>match fr.env g with
  |.sc (.bool b)=>if b=want then iI P T E ops ({dst:=d,op:=op,type:=ty,pos:=pos,after:=after,guard:=none}::rest) K fr H else iI P T E ops rest K (fr.put d (.tuple [])) H|.tuple _=>iI P T E ops rest K (fr.put d (.tuple [])) H|_=>False
 |none=>False:=rfl
@[simp] theorem ag9:rk P T E ops q ({dst:=d,op:=.move x,type:=ty,pos:=pos,after:=after,guard:=none}::rest) K fr H=rk P T E ops q rest K (fr.put d (ev T fr x)) H:=rfl
@[simp] theorem af':rk P T E ops q ({dst:=d,op:=.load t x,type:=ty,pos:=pos,after:=after,guard:=none}::rest) K fr H=if qA ops.toList x (ev T fr x)&&q.ok (ev T fr x)then(match uy P fr H t (ev T fr x)with|some v=>rk P T E ops q rest K (fr.put d v) H|none=>False)else False:=by
 simp only[rk,hQ,hH,pW,j6,mX,wU,pA,jt,hE,nZ,acA,PN]
 split
 .rename_i v a
  split at a
  .rename_i b;rw[dO b,a]
  .cases a
 .rename_i a
  split at a
  .rename_i b;rw[dO b,a]
  .rename_i b;rw[dK b]
@[simp] theorem agi:rk P T E ops q ({dst:=d,op:=.call {callee:=.value f,args:=as,argTypes:=ts},type:=ty,pos:=pos,after:=after,guard:=none}::rest) K fr H=vn P T E ops q (ev T fr f) (as.toList.map λx=>(ev T fr x).norm) d rest K fr H:=by
 simp only[rk,hQ,hH,pW,j6,mX,wU,pA,jt,hE,aeD,vn]
@[simp] theorem afj:rk P T E ops q ({dst:=d,op:=.binOp o t x y u,type:=ty,pos:=pos,after:=after,guard:=none}::rest) K fr H=match Nh P o t y (ev T fr x) (ev T fr y)with|some v=>rk P T E ops q rest K (fr.put d v) H|none=>False:=rfl
@[simp] theorem X7{t:Nat}:rk P T E ops q ({dst:=d,op:=.fieldAddr t x i,type:=ty,pos:=pos,after:=after,guard:=none}::rest) K fr H=match rO P t (ev T fr x) i with|some v=>rk P T E ops q rest K (fr.put d v) H|none=>False:=rfl
@[simp] theorem ZD:rk P T E ops q ({dst:=d,op:=.nilCheck x,type:=ty,pos:=pos,after:=after,guard:=none}::rest) K fr H=match zx P T fr {dst:=d,op:=.nilCheck x,type:=ty,pos:=pos,after:=after,guard:=none}with|some v=>rk P T E ops q rest K (fr.put d v) H|none=>False:=rfl
end
@[simp] theorem Fr.ajw(fr:Fr)(d:Nat)(x:AV):fr.put (some d) x={fr with env:=gN fr.env d x}:=rfl
@[simp] theorem alL(f:Nat->α)(i:Nat)(x:α)(j:Nat):gN f i x j=if j=i then x else f j:=rfl
@[simp] theorem akN(v:Value):AV.cells (.sc v:AV)=[(.sc v:AV)]:=rfl
@[simp] theorem ae7(v:Value):fG (.sc v:AV)=true:=rfl
@[simp] theorem akt(v:Value):AV.kA (.sc v:AV)=(.sc v:AV):=rfl
@[simp] theorem alD(v:Value):AV.norm (.sc v:AV)=(.sc v:AV):=rfl
@[simp] theorem ac8(P:Program)(ty:TypeId)(v:Value):rn P ty (.sc v:AV)=match f' P ty with|some (false,_)=>true|_=>false:=by
 unfold rn;cases f' P ty with
 |none=>rfl|some p=>grind
@[simp] theorem aiD(b g o c:Nat):AV.cells (.xQ b g o c:AV)=[(.xQ b g o c:AV)]:=rfl
@[simp] theorem aco(b g o c:Nat):fG (.xQ b g o c:AV)=true:=rfl
@[simp] theorem agb(o f:Nat):AV.cells (.fg o f:AV)=[(.fg o f:AV)]:=rfl
@[simp] theorem aiI(o f:Nat):AV.norm (.fg o f:AV)=(.fg o f:AV):=rfl
@[simp] theorem VU(P:Program)(ty:TypeId)(o f:Nat):rn P ty (.fg o f:AV)=match f' P ty with|some (false,_)=>true|_=>false:=by
 unfold rn;cases f' P ty with
 |none=>rfl|some p=>grind
@[simp] theorem aio(o:Nat):AV.cells (.n_ o:AV)=[(.n_ o:AV)]:=rfl
@[simp] theorem abU(o:Nat):fG (.n_ o:AV)=true:=rfl
@[simp] theorem ah7(o:Nat):AV.kA (.n_ o:AV)=(.n_ o:AV):=rfl
@[simp] theorem ajd(o:Nat):AV.norm (.n_ o:AV)=(.n_ o:AV):=rfl
@[simp] theorem aiS:uZ []=false:=rfl
@[simp] theorem ag5(c:AV)(cs:List AV):uZ (c::cs)=c.gO:=rfl
@[simp] theorem akM(v:Value):AV.gO (.sc v)=true:=rfl
@[simp] theorem aeZ(t:Tag)(l:List AV):AV.gO (.slice t l)=true:=rfl
@[simp] theorem agy(f:Fn)(a c:List AV):AV.gO (.func f a c)=true:=rfl
@[simp] theorem afv(t:Tag)(l:List AV):AV.cells (.slice t l:AV)=[(.slice t l:AV)]:=rfl
@[simp] theorem ZY(t:Tag)(l:List AV):fG (.slice t l:AV)=true:=rfl
@[simp] theorem afR(t:Tag)(l:List AV):AV.kA (.slice t l:AV)=.slice .gK l:=rfl
@[simp] theorem ag4(t:Tag)(l:List AV):AV.norm (.slice t l:AV)=.slice .gK l:=rfl
@[simp] theorem ahK(P:Program)(ty:TypeId)(t:Tag)(l:List AV):rn P ty (.slice t l:AV)=match f' P ty with|some (false,_)=>true|_=>false:=by
 unfold rn;cases f' P ty with
 |none=>rfl|some p=>grind
@[simp] theorem aiC(cs:List AV):AV.cells (.agg cs:AV)=cs:=rfl
@[simp] theorem aeB(cs:List AV):fG (.agg cs:AV)=true:=rfl
@[simp] theorem ajx(cs:List AV):AV.norm (.agg cs:AV)=.agg (cs.map AV.kA):=rfl
@[simp] theorem sA(P:Program)(ty:TypeId)(cs:List AV):rn P ty (.agg cs)=match f' P ty with|some (true,n)=>cs.length==n|_=>false:=by
 unfold rn;cases f' P ty with
 |none=>rfl|some p=>grind
@[simp] theorem af2(f:Fn)(a c:List AV):AV.cells (.func f a c:AV)=[(.func f a c:AV)]:=rfl
@[simp] theorem abQ(f:Fn)(a c:List AV):fG (.func f a c:AV)=true:=rfl
@[simp] theorem ahm(f:Fn)(a c:List AV):AV.kA (.func f a c:AV)=(.func f a c:AV):=rfl
@[simp] theorem aiO(f:Fn)(a c:List AV):AV.norm (.func f a c:AV)=(.func f a c:AV):=rfl
@[simp] theorem afQ(sz:Nat)(x:AV)(l:List AV):lG sz (x::l)=(x.cells.length==sz):=rfl
def gk(H:dV)(o:Nat)(c:List AV):dV:=H.set o c
@[simp] theorem aiv{o:Nat}{x y:List AV}:gk (gk H o x) o y=gk H o y:=by simp[gk]
section
variable{P:Program} {t:TypeId} {k k':IntKind} {a b:Int} {u v:ByteArray} {p q:Bool}
@[simp] theorem akG{u v:AV}:Nh P op t (.tmp i) u v=oB P op t u v:=rfl
@[simp] theorem akO{i:Int}{u v:AV}:Nh P op t (.const (.int k i)) u v=oB P op t u v:=rfl
@[simp] theorem ajO{i:Option Addr}{u v:AV}:Nh P op t (.const (.pointer i)) u v=oB P op t u v:=rfl
@[simp] theorem ak7:oB P .add t (.sc (.int k a)) (.sc (.int k b))=some (.sc (.int k (eH k a b))):=by simp[oB,sH,qY,eH]
@[simp] theorem aks:oB P .sub t (.sc (.int k a)) (.sc (.int k b))=some (.sc (.int k (fD k a b))):=by simp[oB,sH,qY,fD]
@[simp] theorem akA:oB P .mul t (.sc (.int k a)) (.sc (.int k b))=some (.sc (.int k (O5 k a b))):=by simp[oB,sH,qY,O5]
@[simp] theorem ajA:oB P .rem t (.sc (.int k a)) (.sc (.int k b))=if Ms b then some (.sc (.int k (aa5 k a b)))else none:=by grind[oB,sH,qY,aa5,Ms]
@[simp] theorem ala:oB P .and t (.sc (.int k a)) (.sc (.int k b))=some (.sc (.int k (um k a b))):=by simp[oB,sH,qY,um]
@[simp] theorem al3:oB P .or t (.sc (.int k a)) (.sc (.int k b))=some (.sc (.int k (F8 k a b))):=by simp[oB,sH,qY,F8]
@[simp] theorem ajJ:oB P .shl t (.sc (.int k a)) (.sc (.int k' b))=if Ox b then some (.sc (.int k (Z1 k a b)))else none:=by grind[oB,sH,Z1,Ox]
@[simp] theorem ake:oB P .shr t (.sc (.int k a)) (.sc (.int k' b))=if Ox b then some (.sc (.int k (aah k a b)))else none:=by grind[oB,sH,aah,Ox]
@[simp] theorem akX:oB P .eql t (.sc (.int k a)) (.sc (.int k b))=some (.sc (.bool (eo a b))):=by simp[oB,sH,qY,eo]
@[simp] theorem aj5:oB P .neq t (.sc (.int k a)) (.sc (.int k b))=some (.sc (.bool (eR a b))):=by simp[oB,sH,qY,eR]
@[simp] theorem ajv:oB P .lss t (.sc (.int k a)) (.sc (.int k b))=some (.sc (.bool (pH a b))):=by simp[oB,sH,qY,pH]
@[simp] theorem ak6:oB P .leq t (.sc (.int k a)) (.sc (.int k b))=some (.sc (.bool (Tq a b))):=by simp[oB,sH,qY,Tq]
@[simp] theorem alk:oB P .gtr t (.sc (.int k a)) (.sc (.int k b))=some (.sc (.bool (pw a b))):=by simp[oB,sH,qY,pw]
@[simp] theorem alr:oB P .geq t (.sc (.int k a)) (.sc (.int k b))=some (.sc (.bool (qz a b))):=by simp[oB,sH,qY,qz]
@[simp] theorem al6:unA .not (.sc (.bool p))=some (.sc (.bool (lF p))):=by simp[unA,lF]
@[simp] theorem aiU:UZ (.sc (.int k a)) (.sc (.int k' b))=some (.sc (.int k (imax a b))):=rfl
@[simp] theorem aj4{f:α->AV}{l:List α}:HK P t (.slice tag (l.map f))=match P.underlying t with|some (.slice _)=>some (.sc (.int .i64 (eE l)))|some (.array n _)=>some (.sc (.int .i64 n))|_=>none:=by
 unfold HK eE;cases P.underlying t with
 |none=>rfl|some y=>grind
@[simp] theorem ajn:HK P t (.slice tag [])=match P.underlying t with|some (.slice _)=>some (.sc (.int .i64 0))|some (.array n _)=>some (.sc (.int .i64 n))|_=>none:=by
 unfold HK;cases P.underlying t with
 |none=>rfl|some y=>grind
@[simp] theorem ai7{x:AV}:HK P t (.slice tag (x::l))=match P.underlying t with|some (.slice _)=>some (.sc (.int .i64 ((l.length+1:Nat):Int)))|some (.array n _)=>some (.sc (.int .i64 n))|_=>none:=by
 unfold HK;cases P.underlying t with
 |none=>rfl|some y=>grind
@[simp] theorem Zs{f:α->AV}{l:List α}:gL P t (.slice tag (l.map f)) (.sc (.int k a))=match P.underlying t with
  |some (.slice e)=>match dW l a,f' P e with
   |some x,some (_,sz)=>if(f x).cells.length=sz then some (.mQ (f x))else none|_,_=>none
  |_=>none:=by
 unfold gL dW;cases P.underlying t with
 |none=>rfl|some y=>
  cases y<;>try rfl
  rename_i e;simp only[y']
  by_cases h:0<=a
  .rw[dO h,dO h];cases l[a.toNat]?with
   |none=>rfl|some x=>cases f' P e<;>rfl
  .rw[dK h,dK h]
theorem Jy{f:α->AV}{L:List α}(hu:P.underlying t=some (.array n e))(b:f' P e=some (false,1))(hn:L.length=n):gL P t (.mQ (.agg (L.map f))) (.sc (.int k a))=(dW L a).map λx=>.mQ (f x):=by
 unfold gL dW
 grind[mR,AV.cells]
end
attribute [simp] ev ofValue q4 yP ly I' uy mR rO CG FW Gy nE setCells EX Mj xx zx
 qA Gf rootOf isG isL Se KF vP IV
@[simp] theorem afd{b g:Nat}{K:Fr->dV->Prop}{fr:Fr}:mj P t (.h9 b g off) v K fr H=match f' P t with
  |none=>False|some (_,n)=>match fr.box b with
   |some cs=>g=fr.gen b/\v.cells.length=n/\off+n<=cs.length/\fG v=true/\K {fr with box:=gN fr.box b (some (setCells cs off v.cells))} H|none=>False:=by
 unfold mj;cases f' P t with
 |none=>rfl|some p=>rfl
@[simp] theorem ae9{o:Nat}{K:Fr->dV->Prop}{fr:Fr}:mj P t (.fg o off) v K fr H=match f' P t with
  |none=>False|some (_,n)=>match H[o]?with
   |some cs=>uZ cs=true/\v.cells.length=n/\off+n<=cs.length/\fG v=true/\K fr (H.set o (setCells cs off v.norm.cells))|none=>False:=by
 unfold mj;cases f' P t with
 |none=>rfl|some p=>rfl
theorem gv.Rx{Q:Exit->Fr->dV->Prop}{fr:Fr}{c:Code}(I:Nat->Fr->dV->Prop)(m:Nat)(b:I m fr H)
  (d:∀m fr H,I m fr H->∀K:Fr->dV->Prop,(∀fr' H' a,a<m->I a fr' H'->K fr' H')->gv P T n c (IV K Q) fr H):gv P T n (.loop c) Q fr H:=by
 refine gv.loop ?_
 have key:∀k fr H,I k fr H->ALp P T n c Q fr H:=by
  intro k
  induction k using Nat.strongRecOn with
  |_ k ih=>grind[ALp.round,gv.mono]
 grind
def OP(v:AV)(A B:Prop):Prop:=match v with|.sc (.bool t)=>if t then A else B|_=>False
@[simp] theorem aft(t:Bool)(A B:Prop):OP (.sc (.bool t)) A B=if t then A else B:=rfl
section
variable{P:Program} {T:eK} {n:Nat} {Q:Exit->Fr->dV->Prop} {fr:Fr} {H:dV}
theorem gv.uL{x y:Code}
  (h:∀A B:Fr->dV->Prop,(∀fr H,gv P T n x Q fr H->A fr H)->(∀fr H,gv P T n y Q fr H->B fr H)->OP (ev T fr c) (A fr H) (B fr H)) (b:jw c=true:=by rfl):gv P T n (.cond c x y) Q fr H:=by
 have a:=h (gv P T n x Q) (gv P T n y Q) (λ_ _ h=>h) (λ_ _ h=>h);generalize d:ev T fr c=v at a;cases v with
 |sc w=>
  cases w with
  |bool t=>
   refine gv.cond d b (λf=>?_) (λf=>?_)
   all_goals simp_all
  |_=>exact a.elim
 |_=>exact a.elim
def gv.sr{id:Nat}{y:Code}(E:List Nat)(h:∀K:Fr->dV->Prop,(∀fr H,gv P T n y Q fr H->K fr H)->iI P T E ops ops.toList K fr H)(a:zy n ops=true:=by decide+kernel):gv P T n (.seq (.region id ops false) y) Q fr H:=
 gv.uU λK b=>gv.region E a (h K b)
def gv.ajR{x y:Code}(R:Fr->dV->Prop)(b:∀K:Fr->dV->Prop,(∀fr H,R fr H->K fr H)->gv P T n x (IV K Q) fr H)(c:∀fr H,R fr H->gv P T n y Q fr H):gv P T n (.seq x y) Q fr H:=
 gv.seq ((b R λ_ _ h=>h).mono λe fr' H' a=>by cases e<;>first|exact c _ _ a|exact a)
end
@[simp] theorem range_one:List.range 1=[0]:=rfl
@[simp] theorem akx:List.range 2=[0,1]:=rfl
@[simp] theorem ajl:List.range 3=[0,1,2]:=rfl
section
variable{P:Program} {t e sz:Nat} {bl:Bool} {tag:Tag} {α:Type} {k k' k2:IntKind} {a b:Int} {u:ByteArray}
def aeg(h:0<=a):O1 (some (.sc (.int k a)))=some (some a.toNat):=by simp[O1,h]
theorem ad0(h:¬0<=a):O1 (some (.sc (.int k a)))=none:=by simp[O1,h]
theorem Ph{x:AV}(h:O1 lo=none):pL P t x lo hi none=none:=by unfold pL;rw[h]
theorem Qc{a:Option Nat}(b:O1 lo=some a)(c:O1 hi=some hi')(f:α->AV)(l:List α)(hu:P.underlying t=some (.slice e))(d:f' P e=some (bl,sz))(i:∀x,(f x).cells.length=sz):pL P t (.slice tag (l.map f)) lo hi none=if hi'.getD l.length<=l.length/\a.getD 0<=hi'.getD l.length then some (.slice .gK (((l.take (hi'.getD l.length)).drop (a.getD 0)).map f))else none:=by
 have h:lG sz (l.map f)=true:=by
  cases l with
  |nil=>rfl|cons x l=>simp_all
 unfold pL;rw[b,c];simp only[O1,hu,d,h];simp
theorem PE(f:α->AV)(l:List α)(hu:P.underlying t=some (.slice e))(b:f' P e=some (bl,sz))(c:∀x,(f x).cells.length=sz):pL P t (.slice tag (l.map f)) (some (.sc (.int k a))) none none=(tD l a (eE l)).map λr=>.slice .gK (r.map f):=by
 unfold tD eE
 by_cases d:0<=a
 .rw[Qc (aeg d) (hi:=none) (hi':=none) rfl f l hu b c]
  grind
 .grind[Ph,ad0]
end
theorem vQ{t:Nat}{b:Bool}(f:α->AV)(l:List α)(hu:P.underlying t=some (.slice e))(a:f' P e=some (b,sz))(c:∀x,(f x).cells.length=sz):pL P t (.slice tag (l.map f)) none (some (.sc (.int .i64 (Go.fP.eE l)))) (some (.sc (.int .i64 (Go.fP.eE l))))=some (.slice .full (l.map f)):=by
 have h:lG sz (l.map f)=true:=by
  cases l with
  |nil=>rfl|cons x l=>simp_all
 simp[pL,O1,hu,a,h,Go.fP.eE,<-List.map_take]
def tQ(f:α->AV)(l:List (Int×α)):AV:=.uv (l.map λp=>Value.int .i64 p.1) (l.map λp=>f p.2)
@[simp] theorem akh(f:α->AV):tQ f []=.uv [] []:=rfl
def Ye(l:List (Int×α))(k:Int):mapIdx (l.map λp=>Value.int .i64 p.1) (.int .i64 k)=l.findIdx? (λp=>p.1==k):=by
 unfold mapIdx;rw[List.findIdx?_map];rfl
def VY(l:List (Int×α)):(l.map λp=>Value.int .i64 p.1).all (JN (.int .i64))=true:=by
 rw[kZ];intro x a;obtain⟨p,_,rfl⟩:=ql.1 a;rfl
def RP(f:α->AV):∀(l:List (Int×α)) (k:Int) (y:α),FC (l.map λp=>Value.int .i64 p.1) (l.map λp=>f p.2) (.int .i64 k) (f y)=tQ f (wE l k y)
 |[],k,y=>rfl|p::l,k,y=>by
  have ih:=RP f l k y;unfold FC at ih|-;rw[Ye] at ih|-;rw[agu];unfold wE
  by_cases h:p.1=k
  .grind[tQ]
  .rw[dK (by simpa using h),dK h];cases hi:l.findIdx? (λp=>p.1==k)with
   |none=>
    rw[hi] at ih;simp only[tQ,AV.uv.injEq] at ih;simp[tQ,<-ih.1,<-ih.2]
   |some j=>
    rw[hi] at ih;simp only[tQ,AV.uv.injEq] at ih;simp[tQ,<-ih.1,<-ih.2]
section
variable{P:Program} {t kt e:TypeId} {o:Nat} {k:Int} {α:Type} {f:α->AV} {d:Option Nat} {K:Fr->dV->Prop} {fr:Fr} {H:dV}
def uO.i64(l:List (Int×α))(y:α)(hu:P.underlying t=some (.map kt e))(a:P.underlying kt=some (.int .i64))(b:H[o]?=some [tQ f l])(c:v.norm=f y)(d:K fr (gk H o [tQ f (wE l k y)])):sG P t (.n_ o) (.sc (.int .i64 k)) v K fr H:=by
 unfold sG;simp only[hu,a,b];refine⟨rfl,VY l,?_⟩;rw[c,RP];exact d
end
end Go.lD
