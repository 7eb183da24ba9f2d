/- Part of the proof of TheoryBegins: layer. -/
import Derived.Test.YtjgjcpnoaeljkaaGreatDoorAL8
set_option linter.all false
namespace Go.kQ
open Go Go.eZ
def Ay(P:Program)(t:TypeId)(s x:AV)(d:Nat)(K:Fr->cZ->Prop)(fr:Fr)(H:cZ):Prop:=
 match mO P t,s,x with
 |some (_,sz),.slice tag l,.slice _ m=>
  kJ sz l=true/\kJ sz m=true/\l.length+m.length<=jm/\(if oz fr tag l then K (grown fr d tag l m) H else m=[]/\K (fr.put (some d) (.slice .iB l)) H)
 |_,_,_=>False
def Bj{P:Program}{T:dt}{x y:Operand}{t d:Nat}{K:Fr->cZ->Prop}{fr:Fr}{H:cZ}:mc P T {callee:=.builtin .append,args:=#[x,y],argTypes:=#[t,t]} (some d) K fr H=Ay P t (ev T fr x) (ev T fr y) d K fr H:=by
 unfold mc Ay;simp only;cases mO P t with
 |none=>rfl|some p=>grind[ev]
def Vb(P:Program)(t:TypeId)(s x:AV)(d:Nat)(K:Fr->cZ->Prop)(fr:Fr)(H:cZ):Prop:=
 match mO P t,x with
 |some (e,sz),.slice _ m=>
  kJ sz m=true/\(hS P e).isSome=true/\0<m.length/\match s with
  |.slice .full l=>kJ sz l=true/\l.length+m.length<=jm/\∀cap,l.length+m.length<=cap->K (xp fr d (l.flatMap AV.cells++m.flatMap AV.cells++wo ((cap-(l.length+m.length))*sz)) (l.length+m.length) cap) H|.vM b g len cap=>g=fr.gen b/\len+m.length<=jm/\match fr.box b with
   |some cs=>cs.length=cap*sz/\(len+m.length<=cap->K {fr with env:=fP fr.env d (.vM b g (len+m.length) cap),box:=fP fr.box b (some (setCells cs (len*sz) (m.flatMap AV.cells)))} H)/\(∀a,cap<len+m.length->len+m.length<=a->K (xp fr d (cs.take (len*sz)++m.flatMap AV.cells++wo ((a-(len+m.length))*sz)) (len+m.length) a) H)|none=>False
  |_=>False
 |_,_=>False
def OX{P:Program}{T:dt}{x y:Operand}{t d:Nat}{K:Fr->cZ->Prop}{fr:Fr}{H:cZ}:Ch P T {callee:=.builtin .append,args:=#[x,y],argTypes:=#[t,t]} (some d) K fr H=Vb P t (ev T fr x) (ev T fr y) d K fr H:=by
 unfold Ch Vb;simp only;cases mO P t with
 |none=>rfl|some p=>grind[ev]
def X8(P:Program)(t:TypeId)(s x:AV)(d:Nat)(K:Fr->cZ->Prop)(fr:Fr)(H:cZ):Prop:=
 match mO P t,x with
 |some (e,sz),.slice _ m=>
  kJ sz m=true/\(hS P e).isSome=true/\0<m.length/\match s with
  |.slice .full l=>kJ sz l=true/\l.length+m.length<=jm/\∀cap,l.length+m.length<=cap->K (fr.put (some d) (.qY H.length 0 (l.length+m.length) cap)) (H++[l.flatMap AV.cells++m.flatMap AV.cells++wo ((cap-(l.length+m.length))*sz)])|.Oi=>m.length<=jm/\∀cap,m.length<=cap->K (fr.put (some d) (.qY H.length 0 m.length cap)) (H++[m.flatMap AV.cells++wo ((cap-m.length)*sz)])|.qY o off len cap=>off=0/\len+m.length<=jm/\match H[o]?with
   |some cs=>qF cs=true/\cs.length=cap*sz/\(len+m.length<=cap->K (fr.put (some d) (.qY o 0 (len+m.length) cap)) (H.set o (setCells cs (len*sz) (m.flatMap AV.cells))))/\(∀a,cap<len+m.length->len+m.length<=a->K (fr.put (some d) (.qY H.length 0 (len+m.length) a)) (H++[cs.take (len*sz)++m.flatMap AV.cells++wo ((a-(len+m.length))*sz)]))|none=>False
  |_=>False
 |_,_=>False
def Bb{P:Program}{T:dt}{x y:Operand}{t d:Nat}{K:Fr->cZ->Prop}{fr:Fr}{H:cZ}:oB P T {callee:=.builtin .append,args:=#[x,y],argTypes:=#[t,t]} (some d) K fr H=X8 P t (ev T fr x) (ev T fr y) d K fr H:=by
 unfold oB X8;simp only;cases mO P t with
 |none=>rfl|some p=>grind[ev]
def rf(P:Program)(t:TypeId)(s x:AV)(d:Nat)(K:Fr->cZ->Prop)(fr:Fr)(H:cZ):Prop:=(Ay P t s x d K fr H\/Vb P t s x d K fr H)\/X8 P t s x d K fr H
def Ky{P:Program}{T:dt}{x y:Operand}{t d:Nat}{K:Fr->cZ->Prop}{fr:Fr}{H:cZ}:BR P T {callee:=.builtin .append,args:=#[x,y],argTypes:=#[t,t]} (some d) K fr H=False:=by
 refine propext ⟨λh=>?_,False.elim⟩;unfold BR at h;simp only at h
 split at h
 .rename_i a b _ _;obtain⟨_,_,hu,_⟩:=mB a
  grind
 .exact h
def ik(qn:Nat->Option Nat)(ef:Nat->Nat)(D:List Nat)(tag:Tag)(n:Nat):Prop:=
 tag=.full\/∃k g,k∈D/\tag=.loc k g/\g=ef k/\qn k=some n
def ik.full{qn:Nat->Option Nat}{ef:Nat->Nat}{D:List Nat}{n:Nat}:ik qn ef D .full n:=.inl rfl
theorem ik.new{qn:Nat->Option Nat}{ef:Nat->Nat}{D:List Nat}{n d:Nat}(h:d∈D):ik (fP qn d (some n)) (fP ef d (ef d+1)) D (.loc d (ef d+1)) n:=
 .inr ⟨d,_,h,rfl,by simp[fP],by simp[fP]⟩
def ik.other{qn:Nat->Option Nat}{ef:Nat->Nat}{D D':List Nat}{tag a:Tag}{n n' d:Nat}{x:Option Nat}{y:Nat}(h:ik qn ef D tag n)(j:ik qn ef D' a n')
  (l:∀k,k∈D->k∉D') (o:d∉D):ik (fP (tw a qn) d x) (fP ef d y) D tag n:=by
 rcases h with h|⟨k,g,b,q,r,i⟩
 .exact .inl h
 .refine .inr ⟨k,g,b,q,?_,?_⟩
  .grind[fP]
  .have c:k≠d:=by rintro rfl;exact o b
   simp only[fP,c];rcases j with rfl|⟨k',s,f,rfl,_,_⟩
   .exact i
   .have:k≠k':=by rintro rfl;exact l k b f
    simp[tw,fP,this,i]
def ik.can{fr:Fr}{D:List Nat}{tag:Tag}{l:List AV}{n:Nat}(h:ik fr.qn fr.ef D tag n)(hn:n=l.length):oz fr tag l=true:=by
 rcases h with rfl|⟨k,g,_,rfl,a,b⟩
 all_goals grind[oz]
def Ay.own{P:Program}{t e sz d:Nat}{s x:AV}{K:Fr->cZ->Prop}{fr:Fr}{H:cZ}{α:Type}{f:α->AV}(l m:List α){D:List Nat}{tag b:Tag}
  (h:ik fr.qn fr.ef D tag l.length) (i:mO P t=some (e,sz)) (j:∀x,(f x).cells.length=sz) (hlen:eO l m=true) (hs:s=.slice tag (l.map f)) (k:x=.slice b (m.map f))
  (o:K {fr with env:=fP fr.env d (.slice (.loc d (fr.ef d+1)) ((fu l m).map f)),qn:=fP (tw tag fr.qn) d (some (fu l m).length),ef:=fP fr.ef d (fr.ef d+1)} H):Ay P t s x d K fr H:=by
 subst hs;subst k;have n:=MP hlen
 have c:∀l:List α,kJ sz (l.map f)=true:=λl=>by cases l with|nil=>rfl|cons a l=>simp[kJ,j]
 unfold Ay;rw[i];refine⟨c l,c m,by simpa[jm,lim] using n,?_⟩;rw[cS (h.can acZ)]
 grind[fu,grown]
def rf.own{P:Program}{t e sz d:Nat}{s x:AV}{K:Fr->cZ->Prop}{fr:Fr}{H:cZ}{α:Type}{f:α->AV}(l m:List α){D:List Nat}{tag a:Tag}
  (h:ik fr.qn fr.ef D tag l.length) (b:mO P t=some (e,sz)) (c:∀x,(f x).cells.length=sz) (hlen:eO l m=true) (hs:s=.slice tag (l.map f)) (i:x=.slice a (m.map f))
  (j:K {fr with env:=fP fr.env d (.slice (.loc d (fr.ef d+1)) ((fu l m).map f)),qn:=fP (tw tag fr.qn) d (some (fu l m).length),ef:=fP fr.ef d (fr.ef d+1)} H):rf P t s x d K fr H:=
 .inl (.inl (Ay.own l m h b c hlen hs i j))
def iq(P:Program)(T:dt)(E:List Nat)(ops:Array Oper)(a:AV)(as:List AV)(d:Option Nat)(rest:List Oper)(K:Fr->cZ->Prop)(fr:Fr)(H:cZ):Prop:=
 mS P T a as H λr H'=>gx P T E ops rest K (fr.put d r) H'
def tx(P:Program)(T:dt)(E:List Nat)(ops:Array Oper)(q:Qt)(a:AV)(as:List AV)(d:Option Nat)(rest:List Oper)(K:Fr->cZ->Prop)(fr:Fr)(H:cZ):Prop:=
 if d.any E.contains then VZ P T q true a as d (p0 P T E ops q rest K) fr H else∃r H',mi P T a as H r H'/\(QK q H H')/\p0 P T E ops q rest K (fr.put d r) H'
theorem LA{P:Program}{T:dt}{q:Qt}{soft:Bool}{a:AV}{as:List AV}{d:Option Nat}{K:Fr->cZ->Prop}{fr:Fr}{H H':cZ}{r:AV}(h:mi P T a as H r H')(b:soft=true->QK q H H')(c:K (fr.put d r) H'):VZ P T q soft a as d K fr H:=
 ⟨_,h,⟨r,H',rfl,rfl⟩,λj k ⟨f,i⟩=>by subst f;subst i;exact⟨b,c⟩⟩
def tx.of{P:Program}{T:dt}{E:List Nat}{ops:Array Oper}{q:Qt}{rest:List Oper}{K:Fr->cZ->Prop}{fr:Fr}{H H':cZ}{d:Option Nat}{a:AV}{as:List AV}{r:AV}(h:mi P T a as H r H')(b:QK q H H')(c:p0 P T E ops q rest K (fr.put d r) H'):tx P T E ops q a as d rest K fr H:=by
 grind[tx,LA]
section
variable{P:Program} {T:dt} {E:List Nat} {ops:Array Oper} {q:Qt} {rest:List Oper} {K:Fr->cZ->Prop} {fr:Fr} {H H':cZ} {d:Option Nat} {ty:TypeId} {pos:String} {after:Array Edge}
def iq.fn{g:FuncId}{as:List AV}{r:AV}(h:ds P T g as H r H')(a:gx P T E ops rest K (fr.put d r) H'):iq P T E ops (.func (.func g) [] []) as d rest K fr H:=by
 unfold iq mS;simp only[u7];exact h.post a
def iq.Rb{g:FuncId}{b c as a:List AV}{r:AV}(f:b++as++c=a)(h:ds P T g a H r H')(i:gx P T E ops rest K (fr.put d r) H'):iq P T E ops (.func (.func g) b c) as d rest K fr H:=by
 subst f;exact h.post i
def tx.fn{g:FuncId}{as:List AV}{r:AV}(h:ds P T g as H r H')(a:QK q H H')(b:p0 P T E ops q rest K (fr.put d r) H'):tx P T E ops q (.func (.func g) [] []) as d rest K fr H:=by
 refine tx.of ?_ a b;unfold mi mS;simp only[u7];exact h
@[simp] theorem aeV:gx P T E ops [] K fr H=K fr H:=rfl
@[simp] theorem adW:p0 P T E ops q [] K fr H=K fr H:=rfl
@[simp] theorem ad3{x:Operand}:gx P T E ops ({dst:=d,op:=.move x,type:=ty,pos:=pos,after:=after,guard:=none}::rest) K fr H=gx P T E ops rest K (fr.put d (ev T fr x)) H:=rfl
@[simp] theorem aaz{x:Operand}:gx P T E ops ({dst:=d,op:=.assign x,type:=ty,pos:=pos,after:=after,guard:=none}::rest) K fr H=gx P T E ops rest K (fr.put d (ev T fr x)) H:=rfl
@[simp] theorem abz{t:TypeId}:gx P T E ops ({dst:=d,op:=.alloc t,type:=ty,pos:=pos,after:=after,guard:=none}::rest) K fr H=match hS P t with|some z=>ki E d z (gx P T E ops rest K) fr H|none=>False:=rfl
@[simp] theorem ael{t:TypeId}{x:Operand}:gx P T E ops ({dst:=d,op:=.box t x,type:=ty,pos:=pos,after:=after,guard:=none}::rest) K fr H=(er (ev T fr x)=true/\ki E d (ev T fr x).cells (gx P T E ops rest K) fr H):=rfl
@[simp] theorem adq{t:TypeId}{x:Operand}:gx P T E ops ({dst:=d,op:=.load t x,type:=ty,pos:=pos,after:=after,guard:=none}::rest) K fr H=match sH P fr H t (ev T fr x)with|some v=>gx P T E ops rest K (fr.put d v) H|none=>False:=rfl
@[simp] theorem ac2{t:TypeId}{x y:Operand}:gx P T E ops ({dst:=none,op:=.store t x y,type:=ty,pos:=pos,after:=after,guard:=none}::rest) K fr H=kS P t (ev T fr x) (ev T fr y) (gx P T E ops rest K) fr H:=by simp[gx,CD,pQ]
@[simp] theorem TU{t n:Nat}{ps:Array (Nat×Operand)}:gx P T E ops ({dst:=d,op:=.buildSlice t n ps,type:=ty,pos:=pos,after:=after,guard:=none}::rest) K fr H=match me P t n (ps.toList.map λp=>(p.1,ev T fr p.2))with|some v=>xr E d v (gx P T E ops rest K) fr H|none=>False:=rfl
@[simp] theorem UU{t:TypeId}{l c:Operand}:gx P T E ops ({dst:=d,op:=.makeSlice t l c,type:=ty,pos:=pos,after:=after,guard:=none}::rest) K fr H=match nE P t (ev T fr l) (ev T fr c)with|some v=>xr E d v (gx P T E ops rest K) fr H|none=>False:=rfl
@[simp] theorem ad1{E:List Nat}{d:Option Nat}{v:AV}{K:Fr->cZ->Prop}{fr:Fr}{H:cZ}:xr E d v K fr H=if d.any E.contains then(match v with|.slice _ l=>K (fr.put d (.qY H.length 0 l.length l.length)) (H++[l.flatMap AV.cells])|_=>False)else K (fr.put d v) H:=rfl
@[simp] theorem ZI{x y:Operand}{t d:Nat}:gx P T E ops ({dst:=some d,op:=.call {callee:=.builtin .append,args:=#[x,y],argTypes:=#[t,t]},type:=ty,pos:=pos,after:=after,guard:=none}::rest) K fr H=rf P t (ev T fr x) (ev T fr y) d (gx P T E ops rest K) fr H:=by
 simp only[gx,CD,pQ];unfold rf;rw[<-Bj (T:=T),<-OX (T:=T),<-Bb (T:=T),Ky,false_or]
@[simp] theorem aea{f:Operand}{as:Array Operand}{ts:Array TypeId}:gx P T E ops ({dst:=d,op:=.call {callee:=.value f,args:=as,argTypes:=ts},type:=ty,pos:=pos,after:=after,guard:=none}::rest) K fr H=iq P T E ops (ev T fr f) (as.toList.map λx=>(ev T fr x).norm) d rest K fr H:=rfl
@[simp] theorem afT{as:Array Operand}{ts:Array TypeId}:gx P T E ops ({dst:=d,op:=.call {callee:=.builtin .len,args:=as,argTypes:=ts},type:=ty,pos:=pos,after:=after,guard:=none}::rest) K fr H=match vw P T fr {callee:=.builtin .len,args:=as,argTypes:=ts}with|some v=>gx P T E ops rest K (fr.put d v) H|none=>False:=rfl
@[simp] theorem aeD{as:Array Operand}{ts:Array TypeId}:gx P T E ops ({dst:=d,op:=.call {callee:=.builtin .max,args:=as,argTypes:=ts},type:=ty,pos:=pos,after:=after,guard:=none}::rest) K fr H=match vw P T fr {callee:=.builtin .max,args:=as,argTypes:=ts}with|some v=>gx P T E ops rest K (fr.put d v) H|none=>False:=rfl
@[simp] theorem adz{c a b:Operand}:gx P T E ops ({dst:=d,op:=.pick c a b,type:=ty,pos:=pos,after:=after,guard:=none}::rest) K fr H=match xq P T fr {dst:=d,op:=.pick c a b,type:=ty,pos:=pos,after:=after,guard:=none}with|some v=>gx P T E ops rest K (fr.put d v) H|none=>False:=rfl
@[simp] theorem abw{t:TypeId}{ps:Array (Nat×Operand)}:gx P T E ops ({dst:=d,op:=.build t ps,type:=ty,pos:=pos,after:=after,guard:=none}::rest) K fr H=match Dj P t (ps.toList.map λp=>(p.1,ev T fr p.2))with|some v=>gx P T E ops rest K (fr.put d v) H|none=>False:=rfl
@[simp] theorem adl{o:BinOp}{t u:TypeId}{x y:Operand}:gx P T E ops ({dst:=d,op:=.binOp o t x y u,type:=ty,pos:=pos,after:=after,guard:=none}::rest) K fr H=match FL P o t y (ev T fr x) (ev T fr y)with|some v=>gx P T E ops rest K (fr.put d v) H|none=>False:=rfl
@[simp] theorem ad5{o:UnOp}{t:TypeId}{x:Operand}:gx P T E ops ({dst:=d,op:=.unOp o t x,type:=ty,pos:=pos,after:=after,guard:=none}::rest) K fr H=match unA o (ev T fr x)with|some v=>gx P T E ops rest K (fr.put d v) H|none=>False:=rfl
@[simp] theorem Yv{s t:TypeId}{x:Operand}:gx P T E ops ({dst:=d,op:=.convert s t x,type:=ty,pos:=pos,after:=after,guard:=none}::rest) K fr H=MN P d s t (ev T fr x) (gx P T E ops rest K) fr H:=rfl
@[simp] theorem afG{s t:TypeId}{d:Option Nat}{x:AV}{K:Fr->cZ->Prop}{fr:Fr}{H:cZ}:MN P d s t x K fr H=match BH P s t x with
 |some v=>K (fr.put d v) H|none=>match P.underlying s,P.underlying t,x with
  |some .string,some (.slice e),.sc (.string y)=>P.underlying e=some (.int .u8)/\y.size<=jm/\∀cap k,y.size<=cap->K (fr.put d (.qY H.length 0 y.size cap)) (H++[ox y++wo k])|_,_,_=>False:=rfl
@[simp] theorem Xg{fn:Fn}{f c:Array Operand}:gx P T E ops ({dst:=d,op:=.makeFunc fn f c,type:=ty,pos:=pos,after:=after,guard:=none}::rest) K fr H=gx P T E ops rest K (fr.put d (.func fn (f.toList.map λx=>(ev T fr x).norm) (c.toList.map λx=>(ev T fr x).norm))) H:=rfl
@[simp] theorem Vu{t i:Nat}{x:Operand}:gx P T E ops ({dst:=d,op:=.fieldAddr t x i,type:=ty,pos:=pos,after:=after,guard:=none}::rest) K fr H=match qt P t (ev T fr x) i with|some v=>gx P T E ops rest K (fr.put d v) H|none=>False:=rfl
@[simp] theorem acX{t i:Nat}{x:Operand}:gx P T E ops ({dst:=d,op:=.field t x i,type:=ty,pos:=pos,after:=after,guard:=none}::rest) K fr H=match Be P t (ev T fr x) i with|some v=>gx P T E ops rest K (fr.put d v) H|none=>False:=rfl
@[simp] theorem T_{t:TypeId}{x i:Operand}:gx P T E ops ({dst:=d,op:=.indexAddr t x i,type:=ty,pos:=pos,after:=after,guard:=none}::rest) K fr H=match ft P t (ev T fr x) (ev T fr i)with|some v=>gx P T E ops rest K (fr.put d v) H|none=>False:=rfl
@[simp] theorem abg{t:TypeId}{x:Operand}{lo hi a:Option Operand}:gx P T E ops ({dst:=d,op:=.slice t x lo hi a,type:=ty,pos:=pos,after:=after,guard:=none}::rest) K fr H=match la P t (ev T fr x) (lo.map (ev T fr)) (hi.map (ev T fr)) (a.map (ev T fr))with|some v=>gx P T E ops rest K (fr.put d v) H|none=>False:=rfl
@[simp] theorem YZ{i:Nat}{x:Operand}:gx P T E ops ({dst:=d,op:=.extract x i,type:=ty,pos:=pos,after:=after,guard:=none}::rest) K fr H=match xq P T fr {dst:=d,op:=.extract x i,type:=ty,pos:=pos,after:=after,guard:=none}with|some v=>gx P T E ops rest K (fr.put d v) H|none=>False:=rfl
@[simp] theorem WS{x:Operand}:gx P T E ops ({dst:=d,op:=.nilCheck x,type:=ty,pos:=pos,after:=after,guard:=none}::rest) K fr H=match xq P T fr {dst:=d,op:=.nilCheck x,type:=ty,pos:=pos,after:=after,guard:=none}with|some v=>gx P T E ops rest K (fr.put d v) H|none=>False:=rfl
@[simp] theorem Zu{t:TypeId}:gx P T E ops ({dst:=d,op:=.makeMap t none,type:=ty,pos:=pos,after:=after,guard:=none}::rest) K fr H=Hu d (gx P T E ops rest K) fr H:=rfl
@[simp] theorem Vf{t:TypeId}{x i y:Operand}:gx P T E ops ({dst:=none,op:=.mapUpdate t x i y,type:=ty,pos:=pos,after:=after,guard:=none}::rest) K fr H=rh P t (ev T fr x) (ev T fr i) (ev T fr y) (gx P T E ops rest K) fr H:=by simp[gx,CD,pQ]
@[simp] theorem ZU{t:TypeId}{x i y:Operand}:gx P T E ops ({dst:=none,op:=.insert t x i y,type:=ty,pos:=pos,after:=after,guard:=none}::rest) K fr H=rh P t (ev T fr x) (ev T fr i) (ev T fr y) (gx P T E ops rest K) fr H:=by simp[gx,CD,pQ]
@[simp] theorem acF{t:TypeId}{x:Operand}:gx P T E ops ({dst:=d,op:=.range t x,type:=ty,pos:=pos,after:=after,guard:=none}::rest) K fr H=FR P t (ev T fr x) d (gx P T E ops rest K) fr H:=rfl
@[simp] theorem acn{x:Operand}:gx P T E ops ({dst:=d,op:=.entry x,type:=ty,pos:=pos,after:=after,guard:=none}::rest) K fr H=match CZ (ev T fr x) H with|some v=>gx P T E ops rest K (fr.put d v) H|none=>False:=rfl
@[simp] theorem Tr{x:Operand}:gx P T E ops ({dst:=d,op:=.next x false,type:=ty,pos:=pos,after:=after,guard:=none}::rest) K fr H=Ji (ev T fr x) d (gx P T E ops rest K) fr H:=rfl
@[simp] theorem ac3{op:Op}{j:Nat}{want:Bool}:gx P T E ops ({dst:=d,op:=op,type:=ty,pos:=pos,after:=after,guard:=some (j,want)}::rest) K fr H=match(ops[j]?).bind (·.dst)with
 |some g=>match fr.env g with
  |.sc (.bool b)=>if b=want then gx P T E ops ({dst:=d,op:=op,type:=ty,pos:=pos,after:=after,guard:=none}::rest) K fr H else gx P T E ops rest K (fr.put d (.tuple [])) H|.tuple _=>gx P T E ops rest K (fr.put d (.tuple [])) H|_=>False
 |none=>False:=rfl
@[simp] theorem aa4{x:Operand}:p0 P T E ops q ({dst:=d,op:=.move x,type:=ty,pos:=pos,after:=after,guard:=none}::rest) K fr H=p0 P T E ops q rest K (fr.put d (ev T fr x)) H:=rfl
@[simp] theorem ab0{t:TypeId}{x:Operand}:p0 P T E ops q ({dst:=d,op:=.load t x,type:=ty,pos:=pos,after:=after,guard:=none}::rest) K fr H=if pK ops.toList x (ev T fr x)&&q.ok (ev T fr x)then(match sH P fr H t (ev T fr x)with|some v=>p0 P T E ops q rest K (fr.put d v) H|none=>False)else False:=by
 simp only[p0,fY,fW,oA,iY,lV,uI,oo,lS,fT,mf,YM,RI]
 split
 .rename_i v a
  split at a
  .rename_i b;rw[cS b,a]
  .cases a
 .rename_i a
  split at a
  .rename_i b;rw[cS b,a]
  .rename_i b;rw[cO b]
@[simp] theorem acM{f:Operand}{as:Array Operand}{ts:Array TypeId}:p0 P T E ops q ({dst:=d,op:=.call {callee:=.value f,args:=as,argTypes:=ts},type:=ty,pos:=pos,after:=after,guard:=none}::rest) K fr H=tx P T E ops q (ev T fr f) (as.toList.map λx=>(ev T fr x).norm) d rest K fr H:=by
 simp only[p0,fY,fW,oA,iY,lV,uI,oo,lS,fT,Y0,tx]
@[simp] theorem aab{o:BinOp}{t u:TypeId}{x y:Operand}:p0 P T E ops q ({dst:=d,op:=.binOp o t x y u,type:=ty,pos:=pos,after:=after,guard:=none}::rest) K fr H=match FL P o t y (ev T fr x) (ev T fr y)with|some v=>p0 P T E ops q rest K (fr.put d v) H|none=>False:=rfl
@[simp] theorem TK{t i:Nat}{x:Operand}:p0 P T E ops q ({dst:=d,op:=.fieldAddr t x i,type:=ty,pos:=pos,after:=after,guard:=none}::rest) K fr H=match qt P t (ev T fr x) i with|some v=>p0 P T E ops q rest K (fr.put d v) H|none=>False:=rfl
@[simp] theorem VO{x:Operand}:p0 P T E ops q ({dst:=d,op:=.nilCheck x,type:=ty,pos:=pos,after:=after,guard:=none}::rest) K fr H=match xq P T fr {dst:=d,op:=.nilCheck x,type:=ty,pos:=pos,after:=after,guard:=none}with|some v=>p0 P T E ops q rest K (fr.put d v) H|none=>False:=rfl
end
@[simp] theorem Fr.aew(fr:Fr)(d:Nat)(x:AV):fr.put (some d) x={fr with env:=fP fr.env d x}:=rfl
@[simp] theorem agB{α:Type}(f:Nat->α)(i:Nat)(x:α)(j:Nat):fP f i x j=if j=i then x else f j:=rfl
@[simp] theorem aeT(v:Value):AV.cells (.sc v:AV)=[(.sc v:AV)]:=rfl
@[simp] theorem ZX(v:Value):er (.sc v:AV)=true:=rfl
@[simp] theorem afK(v:Value):AV.kj (.sc v:AV)=(.sc v:AV):=rfl
@[simp] theorem agX(v:Value):AV.norm (.sc v:AV)=(.sc v:AV):=rfl
@[simp] theorem YH(P:Program)(ty:TypeId)(v:Value):qH P ty (.sc v:AV)=match eA P ty with|some (false,_)=>true|_=>false:=by
 unfold qH;cases eA P ty with
 |none=>rfl|some p=>grind
@[simp] theorem adG(b g o c:Nat):AV.cells (.vM b g o c:AV)=[(.vM b g o c:AV)]:=rfl
@[simp] theorem Yi(b g o c:Nat):er (.vM b g o c:AV)=true:=rfl
@[simp] theorem abv(o f:Nat):AV.cells (.eb o f:AV)=[(.eb o f:AV)]:=rfl
@[simp] theorem ady(o f:Nat):AV.norm (.eb o f:AV)=(.eb o f:AV):=rfl
@[simp] theorem S9(P:Program)(ty:TypeId)(o f:Nat):qH P ty (.eb o f:AV)=match eA P ty with|some (false,_)=>true|_=>false:=by
 unfold qH;cases eA P ty with
 |none=>rfl|some p=>grind
@[simp] theorem abE(o:Nat):AV.cells (.kT o:AV)=[(.kT o:AV)]:=rfl
@[simp] theorem W'(o:Nat):er (.kT o:AV)=true:=rfl
@[simp] theorem acm(o:Nat):AV.kj (.kT o:AV)=(.kT o:AV):=rfl
@[simp] theorem ad9(o:Nat):AV.norm (.kT o:AV)=(.kT o:AV):=rfl
@[simp] theorem adS(o s l c:Nat):AV.cells (.qY o s l c:AV)=[(.qY o s l c:AV)]:=rfl
@[simp] theorem XY(o s l c:Nat):er (.qY o s l c:AV)=true:=rfl
@[simp] theorem aee(o s l c:Nat):AV.kj (.qY o s l c:AV)=(.qY o s l c:AV):=rfl
@[simp] theorem aeA(o s l c:Nat):AV.norm (.qY o s l c:AV)=(.qY o s l c:AV):=rfl
@[simp] theorem aed(o s l c:Nat):AV.fL (.qY o s l c)=true:=rfl
@[simp] theorem aeP{P:Program}{t:TypeId}{b s n c:Nat}:B1 P t (.qY b s n c)=match P.underlying t with|some (.slice _)=>some (.sc (.int .i64 n))|some (.array n _)=>some (.sc (.int .i64 n))|_=>none:=by
 unfold B1;cases P.underlying t with
 |none=>rfl|some y=>grind
@[simp] theorem Uz{P:Program}{t:TypeId}{k:IntKind}{a:Int}{b s n c:Nat}:ft P t (.qY b s n c) (.sc (.int k a))=match P.underlying t with
  |some (.slice e)=>match eA P e with
   |some (_,sz)=>if 0<=a/\a<(n:Int)then some (.eb b (s+a.toNat*sz))else none|none=>none
  |_=>none:=by
 unfold ft;cases P.underlying t with
 |none=>rfl|some y=>cases y<;>rfl
@[simp] theorem adX:qF []=false:=rfl
@[simp] theorem abm(c:AV)(cs:List AV):qF (c::cs)=c.fL:=rfl
@[simp] theorem afu(v:Value):AV.fL (.sc v)=true:=rfl
@[simp] theorem ace(o:Nat):AV.fL (.kT o)=true:=rfl
@[simp] theorem aaf(t:Tag)(l:List AV):AV.fL (.slice t l)=true:=rfl
@[simp] theorem aaQ(f:Fn)(a c:List AV):AV.fL (.func f a c)=true:=rfl
@[simp] theorem aav(t:Tag)(l:List AV):AV.cells (.slice t l:AV)=[(.slice t l:AV)]:=rfl
@[simp] theorem V'(t:Tag)(l:List AV):er (.slice t l:AV)=true:=rfl
@[simp] theorem Z0(t:Tag)(l:List AV):AV.kj (.slice t l:AV)=.slice .iB l:=rfl
@[simp] theorem acH(t:Tag)(l:List AV):AV.norm (.slice t l:AV)=.slice .iB l:=rfl
@[simp] theorem abf(P:Program)(ty:TypeId)(t:Tag)(l:List AV):qH P ty (.slice t l:AV)=match eA P ty with|some (false,_)=>true|_=>false:=by
 unfold qH;cases eA P ty with
 |none=>rfl|some p=>grind
@[simp] theorem ad2(cs:List AV):AV.cells (.agg cs:AV)=cs:=rfl
@[simp] theorem YG(cs:List AV):er (.agg cs:AV)=true:=rfl
@[simp] theorem ae9(cs:List AV):AV.norm (.agg cs:AV)=.agg (cs.map AV.kj):=rfl
@[simp] theorem s5(P:Program)(ty:TypeId)(cs:List AV):qH P ty (.agg cs)=match eA P ty with|some (true,n)=>cs.length==n|_=>false:=by
 unfold qH;cases eA P ty with
 |none=>rfl|some p=>grind
@[simp] theorem acC(f:Fn)(a c:List AV):AV.cells (.func f a c:AV)=[(.func f a c:AV)]:=rfl
@[simp] theorem Xd(f:Fn)(a c:List AV):er (.func f a c:AV)=true:=rfl
@[simp] theorem abR(f:Fn)(a c:List AV):AV.kj (.func f a c:AV)=(.func f a c:AV):=rfl
@[simp] theorem adA(f:Fn)(a c:List AV):AV.norm (.func f a c:AV)=(.func f a c:AV):=rfl
@[simp] theorem aal(sz:Nat)(x:AV)(l:List AV):kJ sz (x::l)=(x.cells.length==sz):=rfl
def eR(H:cZ)(o:Nat)(c:List AV):cZ:=H.set o c
@[simp] theorem adU{H:cZ}{o:Nat}{x y:List AV}:eR (eR H o x) o y=eR H o y:=by simp[eR]
@[simp] theorem ZT{H:cZ}{o:Nat}{x:List AV}:(eR H o x).length=H.length:=by simp[eR]
section
variable{P:Program} {t:TypeId} {k k':IntKind} {a b:Int} {u v:ByteArray} {p q:Bool}
@[simp] theorem agk{i:Nat}{u v:AV}{op:BinOp}:FL P op t (.tmp i) u v=kK P op t u v:=rfl
@[simp] theorem afp{i:Int}{u v:AV}{op:BinOp}:FL P op t (.const (.int k i)) u v=kK P op t u v:=rfl
@[simp] theorem afF{i:ByteArray}{u v:AV}{op:BinOp}:FL P op t (.const (.string i)) u v=kK P op t u v:=rfl
@[simp] theorem afn{i:Option Addr}{u v:AV}{op:BinOp}:FL P op t (.const (.pointer i)) u v=kK P op t u v:=rfl
@[simp] theorem agI{u v:AV}{op:BinOp}:FL P op t (.const .nilFunc) u v=kK P op t u v:=rfl
@[simp] theorem af8:kK P .add t (.sc (.int k a)) (.sc (.int k b))=some (.sc (.int k (dF k a b))):=by simp[kK,ot,pU,dF]
@[simp] theorem age:kK P .sub t (.sc (.int k a)) (.sc (.int k b))=some (.sc (.int k (ed k a b))):=by simp[kK,ot,pU,ed]
@[simp] theorem afc:kK P .mul t (.sc (.int k a)) (.sc (.int k b))=some (.sc (.int k (Li k a b))):=by simp[kK,ot,pU,Li]
@[simp] theorem agc:kK P .rem t (.sc (.int k a)) (.sc (.int k b))=if Co b then some (.sc (.int k (wq k a b)))else none:=by grind[kK,ot,pU,wq,Co]
@[simp] theorem af7:kK P .and t (.sc (.int k a)) (.sc (.int k b))=some (.sc (.int k (qi k a b))):=by simp[kK,ot,pU,qi]
@[simp] theorem agR:kK P .or t (.sc (.int k a)) (.sc (.int k b))=some (.sc (.int k (xK k a b))):=by simp[kK,ot,pU,xK]
@[simp] theorem ae4:kK P .shl t (.sc (.int k a)) (.sc (.int k' b))=if Jc b then some (.sc (.int k (Uq k a b)))else none:=by grind[kK,ot,Uq,Jc]
@[simp] theorem afC:kK P .shr t (.sc (.int k a)) (.sc (.int k' b))=if Jc b then some (.sc (.int k (T4 k a b)))else none:=by grind[kK,ot,T4,Jc]
@[simp] theorem afj:kK P .eql t (.sc (.int k a)) (.sc (.int k b))=some (.sc (.bool (dj a b))):=by simp[kK,ot,pU,dj]
@[simp] theorem af4:kK P .neq t (.sc (.int k a)) (.sc (.int k b))=some (.sc (.bool (dw a b))):=by simp[kK,ot,pU,dw]
@[simp] theorem afI:kK P .lss t (.sc (.int k a)) (.sc (.int k b))=some (.sc (.bool (pR a b))):=by simp[kK,ot,pU,pR]
@[simp] theorem afo:kK P .leq t (.sc (.int k a)) (.sc (.int k b))=some (.sc (.bool (HB a b))):=by simp[kK,ot,pU,HB]
@[simp] theorem afO:kK P .gtr t (.sc (.int k a)) (.sc (.int k b))=some (.sc (.bool (lQ a b))):=by simp[kK,ot,pU,lQ]
@[simp] theorem afB:kK P .geq t (.sc (.int k a)) (.sc (.int k b))=some (.sc (.bool (pH a b))):=by simp[kK,ot,pU,pH]
@[simp] theorem aef:kK P .neq t (.sc (.bool p)) (.sc (.bool q))=match P.underlying t with|some .bool=>some (.sc (.bool (P3 p q)))|_=>none:=by
 unfold kK ot P3;cases P.underlying t with
 |none=>rfl|some y=>grind
@[simp] theorem af0:kK P .eql t (.sc (.string u)) (.sc (.string v))=some (.sc (.bool (seq u v))):=by simp[kK,ot,He,seq]
@[simp] theorem agt:unA .not (.sc (.bool p))=some (.sc (.bool (oF p))):=by simp[unA,oF]
@[simp] theorem adP:QO (.sc (.int k a)) (.sc (.int k' b))=some (.sc (.int k (imax a b))):=rfl
@[simp] theorem ad4{s d:TypeId}:BH P s d (.sc (.int k a))=match P.underlying s,P.underlying d with|some _,some (.int k')=>some (.sc (.int k' (conv k' a)))|_,_=>none:=by
 unfold BH Qh conv
 cases P.underlying s with
 |none=>rfl|some x=>grind
def P1(l:List Int):A8 (l.map λn=>AV.sc (.int .u8 n))=some l:=by
 induction l with
 |nil=>rfl|cons n l ih=>simp[A8,ih]
@[simp] theorem MW{s d:TypeId}{tag:Tag}{l:List Int}:BH P s d (.slice tag (l.map λn=>AV.sc (.int .u8 n)))=match P.underlying s,P.underlying d with
  |some (.slice e),some .string=>match P.underlying e with|some (.int .u8)=>some (.sc (.string (E_ l)))|_=>none
  |_,_=>none:=by
 simp only[BH,UI,E_,P1]
 have key:∀a:Option TypeDesc,(match a,some l with|some (.int .u8),some b=>some (AV.sc (.string (strOfNums b)))|_,_=>none)=(match a with|some (.int .u8)=>some (AV.sc (.string (strOfNums l)))|_=>none):=by
  intro a;cases a with
  |none=>rfl|some z=>cases z<;>first|rfl|(rename_i k;cases k<;>rfl)
 generalize P.underlying s=us;generalize P.underlying d=c;cases us with
 |none=>rfl|some x=>
  cases x<;>first|rfl|skip
  cases c with
  |none=>rfl|some y=>cases y<;>first|rfl|exact key _
@[simp] theorem aaG{s d:TypeId}{tag:Tag}{n:Int}:BH P s d (.slice tag [.sc (.int .u8 n)])=match P.underlying s,P.underlying d with
 |some (.slice e),some .string=>match P.underlying e with|some (.int .u8)=>some (.sc (.string (E_ [n])))|_=>none
 |_,_=>none:=MW (tag:=tag) (l:=[n])
@[simp] theorem ae7{α:Type}{f:α->AV}{tag:Tag}{l:List α}:B1 P t (.slice tag (l.map f))=match P.underlying t with|some (.slice _)=>some (.sc (.int .i64 (dq l)))|some (.array n _)=>some (.sc (.int .i64 n))|_=>none:=by
 unfold B1 dq;cases P.underlying t with
 |none=>rfl|some y=>grind
@[simp] theorem ae'{tag:Tag}:B1 P t (.slice tag [])=match P.underlying t with|some (.slice _)=>some (.sc (.int .i64 0))|some (.array n _)=>some (.sc (.int .i64 n))|_=>none:=by
 unfold B1;cases P.underlying t with
 |none=>rfl|some y=>grind
@[simp] theorem aet:B1 P t (.sc (.string u))=match P.underlying t with|some .string=>some (.sc (.int .i64 (abO u)))|some (.array n _)=>some (.sc (.int .i64 n))|_=>none:=by
 unfold B1 abO;cases P.underlying t with
 |none=>rfl|some y=>grind
@[simp] theorem Uv{α:Type}{f:α->AV}{tag:Tag}{l:List α}:ft P t (.slice tag (l.map f)) (.sc (.int k a))=match P.underlying t with
  |some (.slice e)=>match dg l a,eA P e with
   |some x,some (_,sz)=>if(f x).cells.length=sz then some (.lD (f x))else none|_,_=>none
  |_=>none:=by
 unfold ft dg;cases P.underlying t with
 |none=>rfl|some y=>
  cases y<;>try rfl
  rename_i e;simp only[yA]
  by_cases h:0<=a
  .rw[cS h,cS h];cases l[a.toNat]?with
   |none=>rfl|some x=>cases eA P e<;>rfl
  .rw[cO h,cO h]
def F8{α:Type}{f:α->AV}{L:List α}{n e:Nat}(hu:P.underlying t=some (.array n e))(b:eA P e=some (false,1))(hn:L.length=n):ft P t (.lD (.agg (L.map f))) (.sc (.int k a))=(dg L a).map λx=>.lD (f x):=by
 unfold ft dg
 grind[lH,AV.cells]
end
attribute [simp] ev ofValue pS vU ki Hu sH lH qt Be Dj Ec me setCells BS JB vw xq
 pK Dp rootOf isG isL Om Iu uW Gz
@[simp] theorem aap{P:Program}{t:TypeId}{b g off:Nat}{v:AV}{K:Fr->cZ->Prop}{fr:Fr}{H:cZ}:kS P t (.gv b g off) v K fr H=match eA P t with
  |none=>False|some (_,n)=>match fr.box b with
   |some cs=>g=fr.gen b/\v.cells.length=n/\off+n<=cs.length/\er v=true/\K {fr with box:=fP fr.box b (some (setCells cs off v.cells))} H|none=>False:=by
 unfold kS;cases eA P t with
 |none=>rfl|some p=>rfl
@[simp] theorem En{P:Program}{t:TypeId}{o off:Nat}{v:AV}{K:Fr->cZ->Prop}{fr:Fr}{H:cZ}:kS P t (.eb o off) v K fr H=match eA P t with
  |none=>False|some (_,n)=>match H[o]?with
   |some cs=>qF cs=true/\v.cells.length=n/\off+n<=cs.length/\er v=true/\K fr (H.set o (setCells cs off v.norm.cells))|none=>False:=by
 unfold kS;cases eA P t with
 |none=>rfl|some p=>rfl
def fl.Nj{P:Program}{T:dt}{n:Nat}{Q:Exit->Fr->cZ->Prop}{fr:Fr}{H:cZ}{c:Code}(I:Nat->Fr->cZ->Prop)(m:Nat)(b:I m fr H)
  (d:∀m fr H,I m fr H->∀K:Fr->cZ->Prop,(∀fr' H' a,a<m->I a fr' H'->K fr' H')->fl P T n c (Gz K Q) fr H):fl P T n (.loop c) Q fr H:=by
 refine fl.loop ?_
 have key:∀k fr H,I k fr H->ALp P T n c Q fr H:=by
  intro k
  induction k using Nat.strongRecOn with
  |_ k ih=>grind[ALp.round,fl.mono]
 grind
def J8(v:AV)(A B:Prop):Prop:=match v with|.sc (.bool t)=>if t then A else B|_=>False
@[simp] theorem aaK(t:Bool)(A B:Prop):J8 (.sc (.bool t)) A B=if t then A else B:=rfl
section
variable{P:Program} {T:dt} {n:Nat} {Q:Exit->Fr->cZ->Prop} {fr:Fr} {H:cZ}
def fl.sE{c:Operand}{x y:Code}
  (h:∀A B:Fr->cZ->Prop,(∀fr H,fl P T n x Q fr H->A fr H)->(∀fr H,fl P T n y Q fr H->B fr H)->J8 (ev T fr c) (A fr H) (B fr H)) (b:iz c=true:=by rfl):fl P T n (.cond c x y) Q fr H:=by
 have a:=h (fl P T n x Q) (fl P T n y Q) (λ_ _ h=>h) (λ_ _ h=>h);generalize d:ev T fr c=v at a;cases v with
 |sc w=>
  cases w with
  |bool t=>
   refine fl.cond d b (λf=>?_) (λf=>?_)
   all_goals simp_all
  |_=>exact a.elim
 |_=>exact a.elim
def fl.sr{id:Nat}{ops:Array Oper}{y:Code}(E:List Nat)(h:∀K:Fr->cZ->Prop,(∀fr H,fl P T n y Q fr H->K fr H)->gx P T E ops ops.toList K fr H)(a:xB n ops=true:=by decide+kernel):fl P T n (.seq (.region id ops false) y) Q fr H:=
 fl.td λK b=>fl.region E a (h K b)
def fl.af6{x y:Code}(R:Fr->cZ->Prop)(b:∀K:Fr->cZ->Prop,(∀fr H,R fr H->K fr H)->fl P T n x (Gz K Q) fr H)(c:∀fr H,R fr H->fl P T n y Q fr H):fl P T n (.seq x y) Q fr H:=
 fl.seq ((b R λ_ _ h=>h).mono λe fr' H' a=>by cases e<;>first|exact c _ _ a|exact a)
end
@[simp] theorem range_one:List.range 1=[0]:=rfl
@[simp] theorem aeZ:List.range 2=[0,1]:=rfl
@[simp] theorem aeK:List.range 3=[0,1,2]:=rfl
section
variable{P:Program} {t e sz:Nat} {bl:Bool} {tag:Tag} {α:Type} {k k' k2:IntKind} {a b:Int} {u:ByteArray}
theorem KD(h:0<=a):Ft (some (.sc (.int k a)))=some (some a.toNat):=by simp[Ft,h]
theorem Kl(h:¬0<=a):Ft (some (.sc (.int k a)))=none:=by simp[Ft,h]
theorem B4{x:AV}{lo hi:Option AV}(h:Ft lo=none):la P t x lo hi none=none:=by unfold la;rw[h]
theorem Cd{x:AV}{lo hi:Option AV}{lo':Option Nat}(a:Ft lo=some lo')(h:Ft hi=none):la P t x lo hi none=none:=by unfold la;rw[a,h]
theorem M8{lo hi:Option AV}{lo' hi':Option Nat}(a:Ft lo=some lo')(b:Ft hi=some hi'):la P t (.sc (.string u)) lo hi none=match P.underlying t with
  |some .string=>if hi'.getD u.size<=u.size/\lo'.getD 0<=hi'.getD u.size then some (.sc (.string (u.extract (lo'.getD 0) (hi'.getD u.size))))else none|_=>none:=by
 unfold la;rw[a,b];simp only[Ft];generalize P.underlying t=ut;cases ut with
 |none=>rfl|some y=>cases y<;>first|rfl|(simp only[Option.isNone_none,N6])
def DW{lo hi:Option AV}{lo' hi':Option Nat}(a:Ft lo=some lo')(b:Ft hi=some hi')(f:α->AV)(l:List α)(hu:P.underlying t=some (.slice e))(c:eA P e=some (bl,sz))(d:∀x,(f x).cells.length=sz):la P t (.slice tag (l.map f)) lo hi none=if hi'.getD l.length<=l.length/\lo'.getD 0<=hi'.getD l.length then some (.slice .iB (((l.take (hi'.getD l.length)).drop (lo'.getD 0)).map f))else none:=by
 have h:kJ sz (l.map f)=true:=by
  cases l with
  |nil=>rfl|cons x l=>simp_all
 unfold la;rw[a,b];simp only[Ft,hu,c,h];simp
@[simp] theorem aa':la P t (.sc (.string u)) (some (.sc (.int k a))) (some (.sc (.int k' b))) none=match P.underlying t with|some .string=>(Qs u a b).map λs=>.sc (.string s)|_=>none:=by
 unfold Qs
 grind[M8,KD,Cd,Kl,B4]
def NS(f:α->AV)(l:List α)(hu:P.underlying t=some (.slice e))(b:eA P e=some (bl,sz))(c:∀x,(f x).cells.length=sz):la P t (.slice tag (l.map f)) (some (.sc (.int k a))) none none=(k_ l a (dq l)).map λr=>.slice .iB (r.map f):=by
 unfold k_ dq
 by_cases d:0<=a
 .rw[DW (KD d) (hi:=none) (hi':=none) rfl f l hu b c]
  grind
 .grind[B4,Kl]
def Nk(f:α->AV)(l:List α)(hu:P.underlying t=some (.slice e))(c:eA P e=some (bl,sz))(d:∀x,(f x).cells.length=sz):la P t (.slice tag (l.map f)) none (some (.sc (.int k b))) none=(k_ l 0 b).map λr=>.slice .iB (r.map f):=by
 unfold k_
 by_cases a:0<=b
 .rw[DW (lo:=none) (lo':=none) rfl (KD a) f l hu c d]
  grind
 .rw[Cd (lo:=none) (lo':=none) rfl (Kl a),cO (λh=>a h.2.1)];rfl
end
def w8{P:Program}{t e sz:Nat}{b:Bool}{tag:Tag}{α:Type}(f:α->AV)(l:List α)(hu:P.underlying t=some (.slice e))(a:eA P e=some (b,sz))(c:∀x,(f x).cells.length=sz):la P t (.slice tag (l.map f)) none (some (.sc (.int .i64 (Go.eZ.dq l)))) (some (.sc (.int .i64 (Go.eZ.dq l))))=some (.slice .full (l.map f)):=by
 have h:kJ sz (l.map f)=true:=by
  cases l with
  |nil=>rfl|cons x l=>simp_all
 simp[la,Ft,hu,a,h,Go.eZ.dq,<-List.map_take]
def om{α:Type}(f:α->AV)(l:List (Int×α)):AV:=.sW (l.map λp=>Value.int .i64 p.1) (l.map λp=>f p.2)
@[simp] theorem aes{α:Type}(f:α->AV):om f []=.sW [] []:=rfl
def U'{α:Type}(l:List (Int×α))(k:Int):mapIdx (l.map λp=>Value.int .i64 p.1) (.int .i64 k)=l.findIdx? (λp=>p.1==k):=by
 unfold mapIdx;rw[List.findIdx?_map];rfl
def SH{α:Type}(l:List (Int×α)):(l.map λp=>Value.int .i64 p.1).all (Gn (.int .i64))=true:=by
 rw[j3];intro x a;obtain⟨p,_,rfl⟩:=nj.1 a;rfl
def MV{α:Type}(f:α->AV):∀(l:List (Int×α)) (k:Int) (y:α),Da (l.map λp=>Value.int .i64 p.1) (l.map λp=>f p.2) (.int .i64 k) (f y)=om f (tc l k y)
 |[],k,y=>rfl|p::l,k,y=>by
  have ih:=MV f l k y;unfold Da at ih|-;rw[U'] at ih|-;rw[acN];unfold tc
  by_cases h:p.1=k
  .grind[om]
  .rw[cO (by simpa using h),cO h];cases hi:l.findIdx? (λp=>p.1==k)with
   |none=>
    rw[hi] at ih;simp only[om,AV.sW.injEq] at ih;simp[om,<-ih.1,<-ih.2]
   |some j=>
    rw[hi] at ih;simp only[om,AV.sW.injEq] at ih;simp[om,<-ih.1,<-ih.2]
section
variable{P:Program} {t kt e:TypeId} {o:Nat} {k:Int} {α:Type} {f:α->AV} {d:Option Nat} {K:Fr->cZ->Prop} {fr:Fr} {H:cZ}
def se.i64(l:List (Int×α))(y:α){v:AV}(hu:P.underlying t=some (.map kt e))(a:P.underlying kt=some (.int .i64))(b:H[o]?=some [om f l])(c:v.norm=f y)(d:K fr (eR H o [om f (tc l k y)])):rh P t (.kT o) (.sc (.int .i64 k)) v K fr H:=by
 unfold rh;simp only[hu,a,b];refine⟨rfl,SH l,?_⟩;rw[c,MV];exact d
end
end Go.kQ
