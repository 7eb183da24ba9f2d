/- Part of the proof of TheoryNeeds: layer. -/
import Derived.Test.YtjgjcpnoaeljkaaGreatDoorNL8
set_option linter.all false
namespace Go.kC
open Go Go.eU
def As(P:Program)(t:TypeId)(s x:AV)(d:Nat)(K:Fr->cZ->Prop)(fr:Fr)(H:cZ):Prop:=
 match mK P t,s,x with
 |some (_,sz),.slice tag l,.slice _ m=>
  kA sz l=true/\kA sz m=true/\l.length+m.length<=jn/\(if ot fr tag l then K (grown fr d tag l m) H else m=[]/\K (fr.put (some d) (.slice .iw l)) H)
 |_,_,_=>False
def AZ{P:Program}{T:dt}{x y:Operand}{t d:Nat}{K:Fr->cZ->Prop}{fr:Fr}{H:cZ}:l9 P T {callee:=.builtin .append,args:=#[x,y],argTypes:=#[t,t]} (some d) K fr H=As P t (ev T fr x) (ev T fr y) d K fr H:=by
 unfold l9 As;simp only;cases mK P t with
 |none=>rfl|some p=>grind[ev]
def Vd(P:Program)(t:TypeId)(s x:AV)(d:Nat)(K:Fr->cZ->Prop)(fr:Fr)(H:cZ):Prop:=
 match mK P t,x with
 |some (e,sz),.slice _ m=>
  kA sz m=true/\(hO P e).isSome=true/\0<m.length/\match s with
  |.slice .full l=>kA sz l=true/\l.length+m.length<=jn/\∀cap,l.length+m.length<=cap->K (xa fr d (l.flatMap AV.cells++m.flatMap AV.cells++wu ((cap-(l.length+m.length))*sz)) (l.length+m.length) cap) H|.vH b g len cap=>g=fr.gen b/\len+m.length<=jn/\match fr.box b with
   |some cs=>cs.length=cap*sz/\(len+m.length<=cap->K {fr with env:=fO fr.env d (.vH b g (len+m.length) cap),box:=fO fr.box b (some (setCells cs (len*sz) (m.flatMap AV.cells)))} H)/\(∀a,cap<len+m.length->len+m.length<=a->K (xa fr d (cs.take (len*sz)++m.flatMap AV.cells++wu ((a-(len+m.length))*sz)) (len+m.length) a) H)|none=>False
  |_=>False
 |_,_=>False
def Oi{P:Program}{T:dt}{x y:Operand}{t d:Nat}{K:Fr->cZ->Prop}{fr:Fr}{H:cZ}:Cr P T {callee:=.builtin .append,args:=#[x,y],argTypes:=#[t,t]} (some d) K fr H=Vd P t (ev T fr x) (ev T fr y) d K fr H:=by
 unfold Cr Vd;simp only;cases mK P t with
 |none=>rfl|some p=>grind[ev]
def YJ(P:Program)(t:TypeId)(s x:AV)(d:Nat)(K:Fr->cZ->Prop)(fr:Fr)(H:cZ):Prop:=
 match mK P t,x with
 |some (e,sz),.slice _ m=>
  kA sz m=true/\(hO P e).isSome=true/\0<m.length/\match s with
  |.slice .full l=>kA sz l=true/\l.length+m.length<=jn/\∀cap,l.length+m.length<=cap->K (fr.put (some d) (.qU H.length 0 (l.length+m.length) cap)) (H++[l.flatMap AV.cells++m.flatMap AV.cells++wu ((cap-(l.length+m.length))*sz)])|.N'=>m.length<=jn/\∀cap,m.length<=cap->K (fr.put (some d) (.qU H.length 0 m.length cap)) (H++[m.flatMap AV.cells++wu ((cap-m.length)*sz)])|.qU o off len cap=>off=0/\len+m.length<=jn/\match H[o]?with
   |some cs=>qK cs=true/\cs.length=cap*sz/\(len+m.length<=cap->K (fr.put (some d) (.qU o 0 (len+m.length) cap)) (H.set o (setCells cs (len*sz) (m.flatMap AV.cells))))/\(∀a,cap<len+m.length->len+m.length<=a->K (fr.put (some d) (.qU H.length 0 (len+m.length) a)) (H++[cs.take (len*sz)++m.flatMap AV.cells++wu ((a-(len+m.length))*sz)]))|none=>False
  |_=>False
 |_,_=>False
def AD{P:Program}{T:dt}{x y:Operand}{t d:Nat}{K:Fr->cZ->Prop}{fr:Fr}{H:cZ}:ou P T {callee:=.builtin .append,args:=#[x,y],argTypes:=#[t,t]} (some d) K fr H=YJ P t (ev T fr x) (ev T fr y) d K fr H:=by
 unfold ou YJ;simp only;cases mK P t with
 |none=>rfl|some p=>grind[ev]
def rp(P:Program)(t:TypeId)(s x:AV)(d:Nat)(K:Fr->cZ->Prop)(fr:Fr)(H:cZ):Prop:=(As P t s x d K fr H\/Vd P t s x d K fr H)\/YJ P t s x d K fr H
def J_{P:Program}{T:dt}{x y:Operand}{t d:Nat}{K:Fr->cZ->Prop}{fr:Fr}{H:cZ}:BF P T {callee:=.builtin .append,args:=#[x,y],argTypes:=#[t,t]} (some d) K fr H=False:=by
 refine propext ⟨λh=>?_,False.elim⟩;unfold BF at h;simp only at h
 split at h
 .rename_i a b _ _;obtain⟨_,_,hu,_⟩:=mi a
  grind
 .exact h
def ig(qd:Nat->Option Nat)(eg:Nat->Nat)(D:List Nat)(tag:Tag)(n:Nat):Prop:=
 tag=.full\/∃k g,k∈D/\tag=.loc k g/\g=eg k/\qd k=some n
def ig.full{qd:Nat->Option Nat}{eg:Nat->Nat}{D:List Nat}{n:Nat}:ig qd eg D .full n:=.inl rfl
theorem ig.new{qd:Nat->Option Nat}{eg:Nat->Nat}{D:List Nat}{n d:Nat}(h:d∈D):ig (fO qd d (some n)) (fO eg d (eg d+1)) D (.loc d (eg d+1)) n:=
 .inr ⟨d,_,h,rfl,by simp[fO],by simp[fO]⟩
def ig.other{qd:Nat->Option Nat}{eg:Nat->Nat}{D D':List Nat}{tag a:Tag}{n n' d:Nat}{x:Option Nat}{y:Nat}(h:ig qd eg D tag n)(j:ig qd eg D' a n')
  (l:∀k,k∈D->k∉D') (o:d∉D):ig (fO (tv a qd) d x) (fO eg d y) D tag n:=by
 rcases h with h|⟨k,g,b,q,r,i⟩
 .exact .inl h
 .refine .inr ⟨k,g,b,q,?_,?_⟩
  .grind[fO]
  .have c:k≠d:=by rintro rfl;exact o b
   simp only[fO,c];rcases j with rfl|⟨k',s,f,rfl,_,_⟩
   .exact i
   .have:k≠k':=by rintro rfl;exact l k b f
    simp[tv,fO,this,i]
def ig.can{fr:Fr}{D:List Nat}{tag:Tag}{l:List AV}{n:Nat}(h:ig fr.qd fr.eg D tag n)(hn:n=l.length):ot fr tag l=true:=by
 rcases h with rfl|⟨k,g,_,rfl,a,b⟩
 all_goals grind[ot]
def As.own{P:Program}{t e sz d:Nat}{s x:AV}{K:Fr->cZ->Prop}{fr:Fr}{H:cZ}{α:Type}{f:α->AV}(l m:List α){D:List Nat}{tag b:Tag}
  (h:ig fr.qd fr.eg D tag l.length) (i:mK P t=some (e,sz)) (j:∀x,(f x).cells.length=sz) (hlen:eI l m=true) (hs:s=.slice tag (l.map f)) (k:x=.slice b (m.map f))
  (o:K {fr with env:=fO fr.env d (.slice (.loc d (fr.eg d+1)) ((fk l m).map f)),qd:=fO (tv tag fr.qd) d (some (fk l m).length),eg:=fO fr.eg d (fr.eg d+1)} H):As P t s x d K fr H:=by
 subst hs;subst k;have n:=Mo hlen
 have c:∀l:List α,kA sz (l.map f)=true:=λl=>by cases l with|nil=>rfl|cons a l=>simp[kA,j]
 unfold As;rw[i];refine⟨c l,c m,by simpa[jn,lim] using n,?_⟩;rw[cS (h.can aaL)]
 grind[fk,grown]
def rp.own{P:Program}{t e sz d:Nat}{s x:AV}{K:Fr->cZ->Prop}{fr:Fr}{H:cZ}{α:Type}{f:α->AV}(l m:List α){D:List Nat}{tag a:Tag}
  (h:ig fr.qd fr.eg D tag l.length) (b:mK P t=some (e,sz)) (c:∀x,(f x).cells.length=sz) (hlen:eI l m=true) (hs:s=.slice tag (l.map f)) (i:x=.slice a (m.map f))
  (j:K {fr with env:=fO fr.env d (.slice (.loc d (fr.eg d+1)) ((fk l m).map f)),qd:=fO (tv tag fr.qd) d (some (fk l m).length),eg:=fO fr.eg d (fr.eg d+1)} H):rp P t s x d K fr H:=
 .inl (.inl (As.own l m h b c hlen hs i j))
def il(P:Program)(T:dt)(E:List Nat)(ops:Array Oper)(a:AV)(as:List AV)(d:Option Nat)(rest:List Oper)(K:Fr->cZ->Prop)(fr:Fr)(H:cZ):Prop:=
 mM P T a as H λr H'=>gn P T E ops rest K (fr.put d r) H'
def tA(P:Program)(T:dt)(E:List Nat)(ops:Array Oper)(q:Qt)(a:AV)(as:List AV)(d:Option Nat)(rest:List Oper)(K:Fr->cZ->Prop)(fr:Fr)(H:cZ):Prop:=
 if d.any E.contains then Ui P T q true a as d (pY P T E ops q rest K) fr H else∃r H',lX P T a as H r H'/\(QK q H H')/\pY P T E ops q rest K (fr.put d r) H'
theorem Kh{P:Program}{T:dt}{q:Qt}{soft:Bool}{a:AV}{as:List AV}{d:Option Nat}{K:Fr->cZ->Prop}{fr:Fr}{H H':cZ}{r:AV}(h:lX P T a as H r H')(b:soft=true->QK q H H')(c:K (fr.put d r) H'):Ui P T q soft a as d K fr H:=
 ⟨_,h,⟨r,H',rfl,rfl⟩,λj k ⟨f,i⟩=>by subst f;subst i;exact⟨b,c⟩⟩
def tA.of{P:Program}{T:dt}{E:List Nat}{ops:Array Oper}{q:Qt}{rest:List Oper}{K:Fr->cZ->Prop}{fr:Fr}{H H':cZ}{d:Option Nat}{a:AV}{as:List AV}{r:AV}(h:lX P T a as H r H')(b:QK q H H')(c:pY P T E ops q rest K (fr.put d r) H'):tA P T E ops q a as d rest K fr H:=by
 grind[tA,Kh]
section
variable{P:Program} {T:dt} {E:List Nat} {ops:Array Oper} {q:Qt} {rest:List Oper} {K:Fr->cZ->Prop} {fr:Fr} {H H':cZ} {d:Option Nat} {ty:TypeId} {pos:String} {after:Array Edge}
def il.fn{g:FuncId}{as:List AV}{r:AV}(h:ds P T g as H r H')(a:gn P T E ops rest K (fr.put d r) H'):il P T E ops (.func (.func g) [] []) as d rest K fr H:=by
 unfold il mM;simp only[uF];exact h.post a
def il.Q7{g:FuncId}{b c as a:List AV}{r:AV}(f:b++as++c=a)(h:ds P T g a H r H')(i:gn P T E ops rest K (fr.put d r) H'):il P T E ops (.func (.func g) b c) as d rest K fr H:=by
 subst f;exact h.post i
def tA.fn{g:FuncId}{as:List AV}{r:AV}(h:ds P T g as H r H')(a:QK q H H')(b:pY P T E ops q rest K (fr.put d r) H'):tA P T E ops q (.func (.func g) [] []) as d rest K fr H:=by
 refine tA.of ?_ a b;unfold lX mM;simp only[uF];exact h
@[simp] theorem aea:gn P T E ops [] K fr H=K fr H:=rfl
@[simp] theorem adK:pY P T E ops q [] K fr H=K fr H:=rfl
@[simp] theorem adP{x:Operand}:gn P T E ops ({dst:=d,op:=.move x,type:=ty,pos:=pos,after:=after,guard:=none}::rest) K fr H=gn P T E ops rest K (fr.put d (ev T fr x)) H:=rfl
@[simp] theorem Zw{x:Operand}:gn P T E ops ({dst:=d,op:=.assign x,type:=ty,pos:=pos,after:=after,guard:=none}::rest) K fr H=gn P T E ops rest K (fr.put d (ev T fr x)) H:=rfl
@[simp] theorem aa'{t:TypeId}:gn P T E ops ({dst:=d,op:=.alloc t,type:=ty,pos:=pos,after:=after,guard:=none}::rest) K fr H=match hO P t with|some z=>j9 E d z (gn P T E ops rest K) fr H|none=>False:=rfl
@[simp] theorem agb{t:TypeId}{x:Operand}:gn P T E ops ({dst:=d,op:=.box t x,type:=ty,pos:=pos,after:=after,guard:=none}::rest) K fr H=(eo (ev T fr x)=true/\j9 E d (ev T fr x).cells (gn P T E ops rest K) fr H):=rfl
@[simp] theorem adq{t:TypeId}{x:Operand}:gn P T E ops ({dst:=d,op:=.load t x,type:=ty,pos:=pos,after:=after,guard:=none}::rest) K fr H=match sP P fr H t (ev T fr x)with|some v=>gn P T E ops rest K (fr.put d v) H|none=>False:=rfl
@[simp] theorem aaI{t:TypeId}{x y:Operand}:gn P T E ops ({dst:=none,op:=.store t x y,type:=ty,pos:=pos,after:=after,guard:=none}::rest) K fr H=kQ P t (ev T fr x) (ev T fr y) (gn P T E ops rest K) fr H:=by simp[gn,Am,o7]
@[simp] theorem S_{t n:Nat}{ps:Array (Nat×Operand)}:gn P T E ops ({dst:=d,op:=.buildSlice t n ps,type:=ty,pos:=pos,after:=after,guard:=none}::rest) K fr H=match lZ P t n (ps.toList.map λp=>(p.1,ev T fr p.2))with|some v=>xb E d v (gn P T E ops rest K) fr H|none=>False:=rfl
@[simp] theorem VP{t:TypeId}{l c:Operand}:gn P T E ops ({dst:=d,op:=.makeSlice t l c,type:=ty,pos:=pos,after:=after,guard:=none}::rest) K fr H=match nD P t (ev T fr l) (ev T fr c)with|some v=>xb E d v (gn P T E ops rest K) fr H|none=>False:=rfl
@[simp] theorem adF{E:List Nat}{d:Option Nat}{v:AV}{K:Fr->cZ->Prop}{fr:Fr}{H:cZ}:xb E d v K fr H=if d.any E.contains then(match v with|.slice _ l=>K (fr.put d (.qU H.length 0 l.length l.length)) (H++[l.flatMap AV.cells])|_=>False)else K (fr.put d v) H:=rfl
@[simp] theorem aak{x y:Operand}{t d:Nat}:gn P T E ops ({dst:=some d,op:=.call {callee:=.builtin .append,args:=#[x,y],argTypes:=#[t,t]},type:=ty,pos:=pos,after:=after,guard:=none}::rest) K fr H=rp P t (ev T fr x) (ev T fr y) d (gn P T E ops rest K) fr H:=by
 simp only[gn,Am,o7];unfold rp;rw[<-AZ (T:=T),<-Oi (T:=T),<-AD (T:=T),J_,false_or]
@[simp] theorem adj{f:Operand}{as:Array Operand}{ts:Array TypeId}:gn P T E ops ({dst:=d,op:=.call {callee:=.value f,args:=as,argTypes:=ts},type:=ty,pos:=pos,after:=after,guard:=none}::rest) K fr H=il P T E ops (ev T fr f) (as.toList.map λx=>(ev T fr x).norm) d rest K fr H:=rfl
@[simp] theorem afT{as:Array Operand}{ts:Array TypeId}:gn P T E ops ({dst:=d,op:=.call {callee:=.builtin .len,args:=as,argTypes:=ts},type:=ty,pos:=pos,after:=after,guard:=none}::rest) K fr H=match vo P T fr {callee:=.builtin .len,args:=as,argTypes:=ts}with|some v=>gn P T E ops rest K (fr.put d v) H|none=>False:=rfl
@[simp] theorem afl{as:Array Operand}{ts:Array TypeId}:gn P T E ops ({dst:=d,op:=.call {callee:=.builtin .max,args:=as,argTypes:=ts},type:=ty,pos:=pos,after:=after,guard:=none}::rest) K fr H=match vo P T fr {callee:=.builtin .max,args:=as,argTypes:=ts}with|some v=>gn P T E ops rest K (fr.put d v) H|none=>False:=rfl
@[simp] theorem adM{c a b:Operand}:gn P T E ops ({dst:=d,op:=.pick c a b,type:=ty,pos:=pos,after:=after,guard:=none}::rest) K fr H=match wh P T fr {dst:=d,op:=.pick c a b,type:=ty,pos:=pos,after:=after,guard:=none}with|some v=>gn P T E ops rest K (fr.put d v) H|none=>False:=rfl
@[simp] theorem aaG{t:TypeId}{ps:Array (Nat×Operand)}:gn P T E ops ({dst:=d,op:=.build t ps,type:=ty,pos:=pos,after:=after,guard:=none}::rest) K fr H=match De P t (ps.toList.map λp=>(p.1,ev T fr p.2))with|some v=>gn P T E ops rest K (fr.put d v) H|none=>False:=rfl
@[simp] theorem acP{o:BinOp}{t u:TypeId}{x y:Operand}:gn P T E ops ({dst:=d,op:=.binOp o t x y u,type:=ty,pos:=pos,after:=after,guard:=none}::rest) K fr H=match Fv P o t y (ev T fr x) (ev T fr y)with|some v=>gn P T E ops rest K (fr.put d v) H|none=>False:=rfl
@[simp] theorem adb{o:UnOp}{t:TypeId}{x:Operand}:gn P T E ops ({dst:=d,op:=.unOp o t x,type:=ty,pos:=pos,after:=after,guard:=none}::rest) K fr H=match unA o (ev T fr x)with|some v=>gn P T E ops rest K (fr.put d v) H|none=>False:=rfl
@[simp] theorem Zf{s t:TypeId}{x:Operand}:gn P T E ops ({dst:=d,op:=.convert s t x,type:=ty,pos:=pos,after:=after,guard:=none}::rest) K fr H=Nh P d s t (ev T fr x) (gn P T E ops rest K) fr H:=rfl
@[simp] theorem aey{s t:TypeId}{d:Option Nat}{x:AV}{K:Fr->cZ->Prop}{fr:Fr}{H:cZ}:Nh P d s t x K fr H=match Bn P s t x with
 |some v=>K (fr.put d v) H|none=>match P.underlying s,P.underlying t,x with
  |some .string,some (.slice e),.sc (.string y)=>P.underlying e=some (.int .u8)/\y.size<=jn/\∀cap k,y.size<=cap->K (fr.put d (.qU H.length 0 y.size cap)) (H++[oq y++wu k])|_,_,_=>False:=rfl
@[simp] theorem W6{fn:Fn}{f c:Array Operand}:gn P T E ops ({dst:=d,op:=.makeFunc fn f c,type:=ty,pos:=pos,after:=after,guard:=none}::rest) K fr H=gn P T E ops rest K (fr.put d (.func fn (f.toList.map λx=>(ev T fr x).norm) (c.toList.map λx=>(ev T fr x).norm))) H:=rfl
@[simp] theorem UY{t i:Nat}{x:Operand}:gn P T E ops ({dst:=d,op:=.fieldAddr t x i,type:=ty,pos:=pos,after:=after,guard:=none}::rest) K fr H=match qt P t (ev T fr x) i with|some v=>gn P T E ops rest K (fr.put d v) H|none=>False:=rfl
@[simp] theorem acd{t i:Nat}{x:Operand}:gn P T E ops ({dst:=d,op:=.field t x i,type:=ty,pos:=pos,after:=after,guard:=none}::rest) K fr H=match A_ P t (ev T fr x) i with|some v=>gn P T E ops rest K (fr.put d v) H|none=>False:=rfl
@[simp] theorem VH{t:TypeId}{x i:Operand}:gn P T E ops ({dst:=d,op:=.indexAddr t x i,type:=ty,pos:=pos,after:=after,guard:=none}::rest) K fr H=match fp P t (ev T fr x) (ev T fr i)with|some v=>gn P T E ops rest K (fr.put d v) H|none=>False:=rfl
@[simp] theorem ac1{t:TypeId}{x:Operand}{lo hi a:Option Operand}:gn P T E ops ({dst:=d,op:=.slice t x lo hi a,type:=ty,pos:=pos,after:=after,guard:=none}::rest) K fr H=match k0 P t (ev T fr x) (lo.map (ev T fr)) (hi.map (ev T fr)) (a.map (ev T fr))with|some v=>gn P T E ops rest K (fr.put d v) H|none=>False:=rfl
@[simp] theorem XT{i:Nat}{x:Operand}:gn P T E ops ({dst:=d,op:=.extract x i,type:=ty,pos:=pos,after:=after,guard:=none}::rest) K fr H=match wh P T fr {dst:=d,op:=.extract x i,type:=ty,pos:=pos,after:=after,guard:=none}with|some v=>gn P T E ops rest K (fr.put d v) H|none=>False:=rfl
@[simp] theorem Xc{x:Operand}:gn P T E ops ({dst:=d,op:=.nilCheck x,type:=ty,pos:=pos,after:=after,guard:=none}::rest) K fr H=match wh P T fr {dst:=d,op:=.nilCheck x,type:=ty,pos:=pos,after:=after,guard:=none}with|some v=>gn P T E ops rest K (fr.put d v) H|none=>False:=rfl
def FC(P:Program)(t:TypeId)(x i:AV)(ok:Bool)(d:Option Nat)(K:Fr->cZ->Prop)(fr:Fr)(H:cZ):Prop:=
 match p6 P H t x i ok with|some v=>K (fr.put d v) H|none=>False
@[simp] theorem Z4{t:TypeId}{x i:Operand}{ok:Bool}:gn P T E ops ({dst:=d,op:=.lookup t x i ok,type:=ty,pos:=pos,after:=after,guard:=none}::rest) K fr H=FC P t (ev T fr x) (ev T fr i) ok d (gn P T E ops rest K) fr H:=rfl
@[simp] theorem Yh{t:TypeId}:gn P T E ops ({dst:=d,op:=.makeMap t none,type:=ty,pos:=pos,after:=after,guard:=none}::rest) K fr H=F6 d (gn P T E ops rest K) fr H:=rfl
@[simp] theorem TF{t:TypeId}{x i y:Operand}:gn P T E ops ({dst:=none,op:=.mapUpdate t x i y,type:=ty,pos:=pos,after:=after,guard:=none}::rest) K fr H=rq P t (ev T fr x) (ev T fr i) (ev T fr y) (gn P T E ops rest K) fr H:=by simp[gn,Am,o7]
@[simp] theorem ZV{t:TypeId}{x i y:Operand}:gn P T E ops ({dst:=none,op:=.insert t x i y,type:=ty,pos:=pos,after:=after,guard:=none}::rest) K fr H=rq P t (ev T fr x) (ev T fr i) (ev T fr y) (gn P T E ops rest K) fr H:=by simp[gn,Am,o7]
@[simp] theorem acn{t:TypeId}{x:Operand}:gn P T E ops ({dst:=d,op:=.range t x,type:=ty,pos:=pos,after:=after,guard:=none}::rest) K fr H=GC P t (ev T fr x) d (gn P T E ops rest K) fr H:=rfl
@[simp] theorem aaJ{x:Operand}:gn P T E ops ({dst:=d,op:=.entry x,type:=ty,pos:=pos,after:=after,guard:=none}::rest) K fr H=match Du (ev T fr x) H with|some v=>gn P T E ops rest K (fr.put d v) H|none=>False:=rfl
@[simp] theorem Su{x:Operand}:gn P T E ops ({dst:=d,op:=.next x false,type:=ty,pos:=pos,after:=after,guard:=none}::rest) K fr H=Jw (ev T fr x) d (gn P T E ops rest K) fr H:=rfl
@[simp] theorem abn{op:Op}{j:Nat}{want:Bool}:gn P T E ops ({dst:=d,op:=op,type:=ty,pos:=pos,after:=after,guard:=some (j,want)}::rest) K fr H=match(ops[j]?).bind (·.dst)with
 |some g=>match fr.env g with
  |.sc (.bool b)=>if b=want then gn P T E ops ({dst:=d,op:=op,type:=ty,pos:=pos,after:=after,guard:=none}::rest) K fr H else gn P T E ops rest K (fr.put d (.tuple [])) H|.tuple _=>gn P T E ops rest K (fr.put d (.tuple [])) H|_=>False
 |none=>False:=rfl
@[simp] theorem acu{x:Operand}:pY P T E ops q ({dst:=d,op:=.move x,type:=ty,pos:=pos,after:=after,guard:=none}::rest) K fr H=pY P T E ops q rest K (fr.put d (ev T fr x)) H:=rfl
@[simp] theorem aaC{t:TypeId}{x:Operand}:pY P T E ops q ({dst:=d,op:=.load t x,type:=ty,pos:=pos,after:=after,guard:=none}::rest) K fr H=if pG ops.toList x (ev T fr x)&&q.ok (ev T fr x)then(match sP P fr H t (ev T fr x)with|some v=>pY P T E ops q rest K (fr.put d v) H|none=>False)else False:=by
 simp only[pY,fY,fW,oo,iZ,lN,uA,pc,lL,fT,ma,YV,SM]
 split
 .rename_i v a
  split at a
  .rename_i b;rw[cS b,a]
  .cases a
 .rename_i a
  split at a
  .rename_i b;rw[cS b,a]
  .rename_i b;rw[cO b]
@[simp] theorem ac'{f:Operand}{as:Array Operand}{ts:Array TypeId}:pY P T E ops q ({dst:=d,op:=.call {callee:=.value f,args:=as,argTypes:=ts},type:=ty,pos:=pos,after:=after,guard:=none}::rest) K fr H=tA P T E ops q (ev T fr f) (as.toList.map λx=>(ev T fr x).norm) d rest K fr H:=by
 simp only[pY,fY,fW,oo,iZ,lN,uA,pc,lL,fT,XL,tA]
@[simp] theorem ZL{o:BinOp}{t u:TypeId}{x y:Operand}:pY P T E ops q ({dst:=d,op:=.binOp o t x y u,type:=ty,pos:=pos,after:=after,guard:=none}::rest) K fr H=match Fv P o t y (ev T fr x) (ev T fr y)with|some v=>pY P T E ops q rest K (fr.put d v) H|none=>False:=rfl
@[simp] theorem S9{t i:Nat}{x:Operand}:pY P T E ops q ({dst:=d,op:=.fieldAddr t x i,type:=ty,pos:=pos,after:=after,guard:=none}::rest) K fr H=match qt P t (ev T fr x) i with|some v=>pY P T E ops q rest K (fr.put d v) H|none=>False:=rfl
@[simp] theorem VE{x:Operand}:pY P T E ops q ({dst:=d,op:=.nilCheck x,type:=ty,pos:=pos,after:=after,guard:=none}::rest) K fr H=match wh P T fr {dst:=d,op:=.nilCheck x,type:=ty,pos:=pos,after:=after,guard:=none}with|some v=>pY P T E ops q rest K (fr.put d v) H|none=>False:=rfl
end
@[simp] theorem Fr.aeI(fr:Fr)(d:Nat)(x:AV):fr.put (some d) x={fr with env:=fO fr.env d x}:=rfl
@[simp] theorem agF{α:Type}(f:Nat->α)(i:Nat)(x:α)(j:Nat):fO f i x j=if j=i then x else f j:=rfl
@[simp] theorem ae7(v:Value):AV.cells (.sc v:AV)=[(.sc v:AV)]:=rfl
@[simp] theorem aam(v:Value):eo (.sc v:AV)=true:=rfl
@[simp] theorem aeQ(v:Value):AV.ke (.sc v:AV)=(.sc v:AV):=rfl
@[simp] theorem agB(v:Value):AV.norm (.sc v:AV)=(.sc v:AV):=rfl
@[simp] theorem YA(P:Program)(ty:TypeId)(v:Value):qG P ty (.sc v:AV)=match ew P ty with|some (false,_)=>true|_=>false:=by
 unfold qG;cases ew P ty with
 |none=>rfl|some p=>grind
@[simp] theorem adC(b g o c:Nat):AV.cells (.vH b g o c:AV)=[(.vH b g o c:AV)]:=rfl
@[simp] theorem Yb(b g o c:Nat):eo (.vH b g o c:AV)=true:=rfl
@[simp] theorem acp(o f:Nat):AV.cells (.eb o f:AV)=[(.eb o f:AV)]:=rfl
@[simp] theorem ada(o f:Nat):AV.norm (.eb o f:AV)=(.eb o f:AV):=rfl
@[simp] theorem Sr(P:Program)(ty:TypeId)(o f:Nat):qG P ty (.eb o f:AV)=match ew P ty with|some (false,_)=>true|_=>false:=by
 unfold qG;cases ew P ty with
 |none=>rfl|some p=>grind
@[simp] theorem aa8(o:Nat):AV.cells (.iR o:AV)=[(.iR o:AV)]:=rfl
@[simp] theorem WD(o:Nat):eo (.iR o:AV)=true:=rfl
@[simp] theorem abe(o:Nat):AV.ke (.iR o:AV)=(.iR o:AV):=rfl
@[simp] theorem ade(o:Nat):AV.norm (.iR o:AV)=(.iR o:AV):=rfl
@[simp] theorem adl(o s l c:Nat):AV.cells (.qU o s l c:AV)=[(.qU o s l c:AV)]:=rfl
@[simp] theorem Zk(o s l c:Nat):eo (.qU o s l c:AV)=true:=rfl
@[simp] theorem adN(o s l c:Nat):AV.ke (.qU o s l c:AV)=(.qU o s l c:AV):=rfl
@[simp] theorem aem(o s l c:Nat):AV.norm (.qU o s l c:AV)=(.qU o s l c:AV):=rfl
@[simp] theorem adX(o s l c:Nat):AV.fJ (.qU o s l c)=true:=rfl
@[simp] theorem afA{P:Program}{t:TypeId}{b s n c:Nat}:Cd P t (.qU b s n c)=match P.underlying t with|some (.slice _)=>some (.sc (.int .i64 n))|some (.array n _)=>some (.sc (.int .i64 n))|_=>none:=by
 unfold Cd;cases P.underlying t with
 |none=>rfl|some y=>grind
@[simp] theorem T7{P:Program}{t:TypeId}{k:IntKind}{a:Int}{b s n c:Nat}:fp P t (.qU b s n c) (.sc (.int k a))=match P.underlying t with
  |some (.slice e)=>match ew P e with
   |some (_,sz)=>if 0<=a/\a<(n:Int)then some (.eb b (s+a.toNat*sz))else none|none=>none
  |_=>none:=by
 unfold fp;cases P.underlying t with
 |none=>rfl|some y=>cases y<;>rfl
@[simp] theorem ads:qK []=false:=rfl
@[simp] theorem aaH(c:AV)(cs:List AV):qK (c::cs)=c.fJ:=rfl
@[simp] theorem af8(v:Value):AV.fJ (.sc v)=true:=rfl
@[simp] theorem ab6(o:Nat):AV.fJ (.iR o)=true:=rfl
@[simp] theorem ZI(t:Tag)(l:List AV):AV.fJ (.slice t l)=true:=rfl
@[simp] theorem ac0(f:Fn)(a c:List AV):AV.fJ (.func f a c)=true:=rfl
@[simp] theorem ZB(t:Tag)(l:List AV):AV.cells (.slice t l:AV)=[(.slice t l:AV)]:=rfl
@[simp] theorem Ul(t:Tag)(l:List AV):eo (.slice t l:AV)=true:=rfl
@[simp] theorem Zq(t:Tag)(l:List AV):AV.ke (.slice t l:AV)=.slice .iw l:=rfl
@[simp] theorem ab'(t:Tag)(l:List AV):AV.norm (.slice t l:AV)=.slice .iw l:=rfl
@[simp] theorem abR(P:Program)(ty:TypeId)(t:Tag)(l:List AV):qG P ty (.slice t l:AV)=match ew P ty with|some (false,_)=>true|_=>false:=by
 unfold qG;cases ew P ty with
 |none=>rfl|some p=>grind
@[simp] theorem ad0(cs:List AV):AV.cells (.agg cs:AV)=cs:=rfl
@[simp] theorem Yp(cs:List AV):eo (.agg cs:AV)=true:=rfl
@[simp] theorem afI(cs:List AV):AV.norm (.agg cs:AV)=.agg (cs.map AV.ke):=rfl
@[simp] theorem sA(P:Program)(ty:TypeId)(cs:List AV):qG P ty (.agg cs)=match ew P ty with|some (true,n)=>cs.length==n|_=>false:=by
 unfold qG;cases ew P ty with
 |none=>rfl|some p=>grind
@[simp] theorem acv(f:Fn)(a c:List AV):AV.cells (.func f a c:AV)=[(.func f a c:AV)]:=rfl
@[simp] theorem W1(f:Fn)(a c:List AV):eo (.func f a c:AV)=true:=rfl
@[simp] theorem ac7(f:Fn)(a c:List AV):AV.ke (.func f a c:AV)=(.func f a c:AV):=rfl
@[simp] theorem adv(f:Fn)(a c:List AV):AV.norm (.func f a c:AV)=(.func f a c:AV):=rfl
@[simp] theorem Z9(sz:Nat)(x:AV)(l:List AV):kA sz (x::l)=(x.cells.length==sz):=rfl
def eO(H:cZ)(o:Nat)(c:List AV):cZ:=H.set o c
@[simp] theorem adp{H:cZ}{o:Nat}{x y:List AV}:eO (eO H o x) o y=eO H o y:=by simp[eO]
@[simp] theorem ZH{H:cZ}{o:Nat}{x:List AV}:(eO H o x).length=H.length:=by simp[eO]
section
variable{P:Program} {t:TypeId} {k k':IntKind} {a b:Int} {u v:ByteArray} {p q:Bool}
@[simp] theorem afd{i:Nat}{u v:AV}{op:BinOp}:Fv P op t (.tmp i) u v=kX P op t u v:=rfl
@[simp] theorem afW{i:Int}{u v:AV}{op:BinOp}:Fv P op t (.const (.int k i)) u v=kX P op t u v:=rfl
@[simp] theorem afm{i:ByteArray}{u v:AV}{op:BinOp}:Fv P op t (.const (.string i)) u v=kX P op t u v:=rfl
@[simp] theorem afk{i:Option Addr}{u v:AV}{op:BinOp}:Fv P op t (.const (.pointer i)) u v=kX P op t u v:=rfl
@[simp] theorem agE{u v:AV}{op:BinOp}:Fv P op t (.const .nilFunc) u v=kX P op t u v:=rfl
@[simp] theorem ael:kX P .add t (.sc (.int k a)) (.sc (.int k b))=some (.sc (.int k (dJ k a b))):=by simp[kX,oD,pP,dJ]
@[simp] theorem aec:kX P .sub t (.sc (.int k a)) (.sc (.int k b))=some (.sc (.int k (ea k a b))):=by simp[kX,oD,pP,ea]
@[simp] theorem ad':kX P .mul t (.sc (.int k a)) (.sc (.int k b))=some (.sc (.int k (J4 k a b))):=by simp[kX,oD,pP,J4]
@[simp] theorem aeE:kX P .rem t (.sc (.int k a)) (.sc (.int k b))=if Bu b then some (.sc (.int k (yw k a b)))else none:=by grind[kX,oD,pP,yw,Bu]
@[simp] theorem aeg:kX P .and t (.sc (.int k a)) (.sc (.int k b))=some (.sc (.int k (qn k a b))):=by simp[kX,oD,pP,qn]
@[simp] theorem agj:kX P .or t (.sc (.int k a)) (.sc (.int k b))=some (.sc (.int k (w4 k a b))):=by simp[kX,oD,pP,w4]
@[simp] theorem af2:kX P .shl t (.sc (.int k a)) (.sc (.int k' b))=if IE b then some (.sc (.int k (Wp k a b)))else none:=by grind[kX,oD,Wp,IE]
@[simp] theorem ae4:kX P .shr t (.sc (.int k a)) (.sc (.int k' b))=if IE b then some (.sc (.int k (TQ k a b)))else none:=by grind[kX,oD,TQ,IE]
@[simp] theorem afS:kX P .eql t (.sc (.int k a)) (.sc (.int k b))=some (.sc (.bool (dj a b))):=by simp[kX,oD,pP,dj]
@[simp] theorem af9:kX P .neq t (.sc (.int k a)) (.sc (.int k b))=some (.sc (.bool (dx a b))):=by simp[kX,oD,pP,dx]
@[simp] theorem aeG:kX P .lss t (.sc (.int k a)) (.sc (.int k b))=some (.sc (.bool (qT a b))):=by simp[kX,oD,pP,qT]
@[simp] theorem age:kX P .leq t (.sc (.int k a)) (.sc (.int k b))=some (.sc (.bool (Hl a b))):=by simp[kX,oD,pP,Hl]
@[simp] theorem aeB:kX P .gtr t (.sc (.int k a)) (.sc (.int k b))=some (.sc (.bool (ly a b))):=by simp[kX,oD,pP,ly]
@[simp] theorem aeu:kX P .geq t (.sc (.int k a)) (.sc (.int k b))=some (.sc (.bool (og a b))):=by simp[kX,oD,pP,og]
@[simp] theorem afh:kX P .eql t (.sc (.string u)) (.sc (.string v))=some (.sc (.bool (seq u v))):=by simp[kX,oD,Fw,seq]
@[simp] theorem agl:unA .not (.sc (.bool p))=some (.sc (.bool (pL p))):=by simp[unA,pL]
@[simp] theorem ady:QV (.sc (.int k a)) (.sc (.int k' b))=some (.sc (.int k (imax a b))):=rfl
@[simp] theorem adO{s d:TypeId}:Bn P s d (.sc (.int k a))=match P.underlying s,P.underlying d with|some _,some (.int k')=>some (.sc (.int k' (conv k' a)))|_,_=>none:=by
 unfold Bn PS conv
 cases P.underlying s with
 |none=>rfl|some x=>grind
def OK(l:List Int):A8 (l.map λn=>AV.sc (.int .u8 n))=some l:=by
 induction l with
 |nil=>rfl|cons n l ih=>simp[A8,ih]
@[simp] theorem MX{s d:TypeId}{tag:Tag}{l:List Int}:Bn P s d (.slice tag (l.map λn=>AV.sc (.int .u8 n)))=match P.underlying s,P.underlying d with
  |some (.slice e),some .string=>match P.underlying e with|some (.int .u8)=>some (.sc (.string (En l)))|_=>none
  |_,_=>none:=by
 simp only[Bn,Vr,En,OK]
 have key:∀a:Option TypeDesc,(match a,some l with|some (.int .u8),some b=>some (AV.sc (.string (strOfNums b)))|_,_=>none)=(match a with|some (.int .u8)=>some (AV.sc (.string (strOfNums l)))|_=>none):=by
  intro a;cases a with
  |none=>rfl|some z=>cases z<;>first|rfl|(rename_i k;cases k<;>rfl)
 generalize P.underlying s=us;generalize P.underlying d=c;cases us with
 |none=>rfl|some x=>
  cases x<;>first|rfl|skip
  cases c with
  |none=>rfl|some y=>cases y<;>first|rfl|exact key _
@[simp] theorem aau{s d:TypeId}{tag:Tag}{n:Int}:Bn P s d (.slice tag [.sc (.int .u8 n)])=match P.underlying s,P.underlying d with
 |some (.slice e),some .string=>match P.underlying e with|some (.int .u8)=>some (.sc (.string (En [n])))|_=>none
 |_,_=>none:=MX (tag:=tag) (l:=[n])
@[simp] theorem afC{α:Type}{f:α->AV}{tag:Tag}{l:List α}:Cd P t (.slice tag (l.map f))=match P.underlying t with|some (.slice _)=>some (.sc (.int .i64 (dp l)))|some (.array n _)=>some (.sc (.int .i64 n))|_=>none:=by
 unfold Cd dp;cases P.underlying t with
 |none=>rfl|some y=>grind
@[simp] theorem ad8{tag:Tag}:Cd P t (.slice tag [])=match P.underlying t with|some (.slice _)=>some (.sc (.int .i64 0))|some (.array n _)=>some (.sc (.int .i64 n))|_=>none:=by
 unfold Cd;cases P.underlying t with
 |none=>rfl|some y=>grind
@[simp] theorem ae':Cd P t (.sc (.string u))=match P.underlying t with|some .string=>some (.sc (.int .i64 (aaE u)))|some (.array n _)=>some (.sc (.int .i64 n))|_=>none:=by
 unfold Cd aaE;cases P.underlying t with
 |none=>rfl|some y=>grind
@[simp] theorem Wv{α:Type}{f:α->AV}{tag:Tag}{l:List α}:fp P t (.slice tag (l.map f)) (.sc (.int k a))=match P.underlying t with
  |some (.slice e)=>match dg l a,ew P e with
   |some x,some (_,sz)=>if(f x).cells.length=sz then some (.lx (f x))else none|_,_=>none
  |_=>none:=by
 unfold fp dg;cases P.underlying t with
 |none=>rfl|some y=>
  cases y<;>try rfl
  rename_i e;simp only[yq]
  by_cases h:0<=a
  .rw[cS h,cS h];cases l[a.toNat]?with
   |none=>rfl|some x=>cases ew P e<;>rfl
  .rw[cO h,cO h]
def GF{α:Type}{f:α->AV}{L:List α}{n e:Nat}(hu:P.underlying t=some (.array n e))(b:ew P e=some (false,1))(hn:L.length=n):fp P t (.lx (.agg (L.map f))) (.sc (.int k a))=(dg L a).map λx=>.lx (f x):=by
 unfold fp dg
 grind[lB,AV.cells]
end
attribute [simp] ev ofValue pN vK j9 F6 sP lB qt A_ De DX lZ setCells Bs Jv vo wh
 pG Da rootOf isG isL N_ Hu uj FM
@[simp] theorem ZU{P:Program}{t:TypeId}{b g off:Nat}{v:AV}{K:Fr->cZ->Prop}{fr:Fr}{H:cZ}:kQ P t (.gx b g off) v K fr H=match ew P t with
  |none=>False|some (_,n)=>match fr.box b with
   |some cs=>g=fr.gen b/\v.cells.length=n/\off+n<=cs.length/\eo v=true/\K {fr with box:=fO fr.box b (some (setCells cs off v.cells))} H|none=>False:=by
 unfold kQ;cases ew P t with
 |none=>rfl|some p=>rfl
@[simp] theorem DS{P:Program}{t:TypeId}{o off:Nat}{v:AV}{K:Fr->cZ->Prop}{fr:Fr}{H:cZ}:kQ P t (.eb o off) v K fr H=match ew P t with
  |none=>False|some (_,n)=>match H[o]?with
   |some cs=>qK cs=true/\v.cells.length=n/\off+n<=cs.length/\eo v=true/\K fr (H.set o (setCells cs off v.norm.cells))|none=>False:=by
 unfold kQ;cases ew P t with
 |none=>rfl|some p=>rfl
def fa.NB{P:Program}{T:dt}{n:Nat}{Q:Exit->Fr->cZ->Prop}{fr:Fr}{H:cZ}{c:Code}(I:Nat->Fr->cZ->Prop)(m:Nat)(b:I m fr H)
  (d:∀m fr H,I m fr H->∀K:Fr->cZ->Prop,(∀fr' H' a,a<m->I a fr' H'->K fr' H')->fa P T n c (FM K Q) fr H):fa P T n (.loop c) Q fr H:=by
 refine fa.loop ?_
 have key:∀k fr H,I k fr H->ALp P T n c Q fr H:=by
  intro k
  induction k using Nat.strongRecOn with
  |_ k ih=>grind[ALp.round,fa.mono]
 grind
def KE(v:AV)(A B:Prop):Prop:=match v with|.sc (.bool t)=>if t then A else B|_=>False
@[simp] theorem aay(t:Bool)(A B:Prop):KE (.sc (.bool t)) A B=if t then A else B:=rfl
section
variable{P:Program} {T:dt} {n:Nat} {Q:Exit->Fr->cZ->Prop} {fr:Fr} {H:cZ}
def fa.sx{c:Operand}{x y:Code}
  (h:∀A B:Fr->cZ->Prop,(∀fr H,fa P T n x Q fr H->A fr H)->(∀fr H,fa P T n y Q fr H->B fr H)->KE (ev T fr c) (A fr H) (B fr H)) (b:iv c=true:=by rfl):fa P T n (.cond c x y) Q fr H:=by
 have a:=h (fa P T n x Q) (fa P T n y Q) (λ_ _ h=>h) (λ_ _ h=>h);generalize d:ev T fr c=v at a;cases v with
 |sc w=>
  cases w with
  |bool t=>
   refine fa.cond d b (λf=>?_) (λf=>?_)
   all_goals simp_all
  |_=>exact a.elim
 |_=>exact a.elim
def fa.sr{id:Nat}{ops:Array Oper}{y:Code}(E:List Nat)(h:∀K:Fr->cZ->Prop,(∀fr H,fa P T n y Q fr H->K fr H)->gn P T E ops ops.toList K fr H)(a:vL n ops=true:=by decide+kernel):fa P T n (.seq (.region id ops false) y) Q fr H:=
 fa.tc λK b=>fa.region E a (h K b)
def fa.aeH{x y:Code}(R:Fr->cZ->Prop)(b:∀K:Fr->cZ->Prop,(∀fr H,R fr H->K fr H)->fa P T n x (FM K Q) fr H)(c:∀fr H,R fr H->fa P T n y Q fr H):fa P T n (.seq x y) Q fr H:=
 fa.seq ((b R λ_ _ h=>h).mono λe fr' H' a=>by cases e<;>first|exact c _ _ a|exact a)
end
@[simp] theorem range_one:List.range 1=[0]:=rfl
@[simp] theorem aeh:List.range 2=[0,1]:=rfl
@[simp] theorem aer:List.range 3=[0,1,2]:=rfl
section
variable{P:Program} {t e sz:Nat} {bl:Bool} {tag:Tag} {α:Type} {k k' k2:IntKind} {a b:Int} {u:ByteArray}
theorem Lf(h:0<=a):Fc (some (.sc (.int k a)))=some (some a.toNat):=by simp[Fc,h]
theorem KX(h:¬0<=a):Fc (some (.sc (.int k a)))=none:=by simp[Fc,h]
theorem CA{x:AV}{lo hi:Option AV}(h:Fc lo=none):k0 P t x lo hi none=none:=by unfold k0;rw[h]
theorem BK{x:AV}{lo hi:Option AV}{lo':Option Nat}(a:Fc lo=some lo')(h:Fc hi=none):k0 P t x lo hi none=none:=by unfold k0;rw[a,h]
theorem LW{lo hi:Option AV}{lo' hi':Option Nat}(a:Fc lo=some lo')(b:Fc hi=some hi'):k0 P t (.sc (.string u)) lo hi none=match P.underlying t with
  |some .string=>if hi'.getD u.size<=u.size/\lo'.getD 0<=hi'.getD u.size then some (.sc (.string (u.extract (lo'.getD 0) (hi'.getD u.size))))else none|_=>none:=by
 unfold k0;rw[a,b];simp only[Fc];generalize P.underlying t=ut;cases ut with
 |none=>rfl|some y=>cases y<;>first|rfl|(simp only[Option.isNone_none,N1])
def D8{lo hi:Option AV}{lo' hi':Option Nat}(a:Fc lo=some lo')(b:Fc hi=some hi')(f:α->AV)(l:List α)(hu:P.underlying t=some (.slice e))(c:ew P e=some (bl,sz))(d:∀x,(f x).cells.length=sz):k0 P t (.slice tag (l.map f)) lo hi none=if hi'.getD l.length<=l.length/\lo'.getD 0<=hi'.getD l.length then some (.slice .iw (((l.take (hi'.getD l.length)).drop (lo'.getD 0)).map f))else none:=by
 have h:kA sz (l.map f)=true:=by
  cases l with
  |nil=>rfl|cons x l=>simp_all
 unfold k0;rw[a,b];simp only[Fc,hu,c,h];simp
@[simp] theorem ab0:k0 P t (.sc (.string u)) (some (.sc (.int k a))) (some (.sc (.int k' b))) none=match P.underlying t with|some .string=>(P7 u a b).map λs=>.sc (.string s)|_=>none:=by
 unfold P7
 grind[LW,Lf,BK,KX,CA]
def N3(f:α->AV)(l:List α)(hu:P.underlying t=some (.slice e))(b:ew P e=some (bl,sz))(c:∀x,(f x).cells.length=sz):k0 P t (.slice tag (l.map f)) (some (.sc (.int k a))) none none=(ru l a (dp l)).map λr=>.slice .iw (r.map f):=by
 unfold ru dp
 by_cases d:0<=a
 .rw[D8 (Lf d) (hi:=none) (hi':=none) rfl f l hu b c]
  grind
 .grind[CA,KX]
def LN(f:α->AV)(l:List α)(hu:P.underlying t=some (.slice e))(c:ew P e=some (bl,sz))(d:∀x,(f x).cells.length=sz):k0 P t (.slice tag (l.map f)) none (some (.sc (.int k b))) none=(ru l 0 b).map λr=>.slice .iw (r.map f):=by
 unfold ru
 by_cases a:0<=b
 .rw[D8 (lo:=none) (lo':=none) rfl (Lf a) f l hu c d]
  grind
 .rw[BK (lo:=none) (lo':=none) rfl (KX a),cO (λh=>a h.2.1)];rfl
end
def wX{P:Program}{t e sz:Nat}{b:Bool}{tag:Tag}{α:Type}(f:α->AV)(l:List α)(hu:P.underlying t=some (.slice e))(a:ew P e=some (b,sz))(c:∀x,(f x).cells.length=sz):k0 P t (.slice tag (l.map f)) none (some (.sc (.int .i64 (Go.eU.dp l)))) (some (.sc (.int .i64 (Go.eU.dp l))))=some (.slice .full (l.map f)):=by
 have h:kA sz (l.map f)=true:=by
  cases l with
  |nil=>rfl|cons x l=>simp_all
 simp[k0,Fc,hu,a,h,Go.eU.dp,<-List.map_take]
def lP{α:Type}(f:α->AV)(l:List (Int×α)):AV:=.rG (l.map λp=>Value.int .i64 p.1) (l.map λp=>f p.2)
@[simp] theorem afF{α:Type}(f:α->AV):lP f []=.rG [] []:=rfl
def Mw{α:Type}(l:List (Int×α))(k:Int):mapIdx (l.map λp=>Value.int .i64 p.1) (.int .i64 k)=l.findIdx? (λp=>p.1==k):=by
 unfold mapIdx;rw[List.findIdx?_map];rfl
def Jl{α:Type}(l:List (Int×α)):(l.map λp=>Value.int .i64 p.1).all (GH (.int .i64))=true:=by
 rw[jY];intro x a;obtain⟨p,_,rfl⟩:=nw.1 a;rfl
def NJ{α:Type}(f:α->AV):∀(l:List (Int×α)) (k:Int) (y:α),Df (l.map λp=>Value.int .i64 p.1) (l.map λp=>f p.2) (.int .i64 k) (f y)=lP f (nN l k y)
 |[],k,y=>rfl|p::l,k,y=>by
  have ih:=NJ f l k y;unfold Df at ih|-;rw[Mw] at ih|-;rw[YS];unfold nN
  by_cases h:p.1=k
  .grind[lP]
  .rw[cO (by simpa using h),cO h];cases hi:l.findIdx? (λp=>p.1==k)with
   |none=>
    rw[hi] at ih;simp only[lP,AV.rG.injEq] at ih;simp[lP,<-ih.1,<-ih.2]
   |some j=>
    rw[hi] at ih;simp only[lP,AV.rG.injEq] at ih;simp[lP,<-ih.1,<-ih.2]
def Ms{α:Type}(f:α->AV):∀(l:List (Int×α)) (k:Int),(l.findIdx? (λp=>p.1==k)=none->Qh l k=none)/\∀j,l.findIdx? (λp=>p.1==k)=some j->∃y,Qh l k=some y/\(l.map λp=>f p.2)[j]?=some (f y)
 |[],k=>by simp[Qh]|p::l,k=>by
  obtain⟨i1,i2⟩:=Ms f l k;rw[YS];unfold Qh
  by_cases h:p.1=k
  .grind
  .rw[cO (by simpa using h),cO h];cases hi:l.findIdx? (λp=>p.1==k)with
   |none=>exact⟨λ_=>i1 hi,aaL⟩|some j=>
    refine⟨aaL,?_⟩;intro b a;simp at a;subst a;simpa using i2 j hi
section
variable{P:Program} {t kt e:TypeId} {o:Nat} {k:Int} {α:Type} {f:α->AV} {d:Option Nat} {K:Fr->cZ->Prop} {fr:Fr} {H:cZ}
def ry.i64(l:List (Int×α))(y:α){v:AV}(hu:P.underlying t=some (.map kt e))(a:P.underlying kt=some (.int .i64))(b:H[o]?=some [lP f l])(c:v.norm=f y)(d:K fr (eO H o [lP f (nN l k y)])):rq P t (.iR o) (.sc (.int .i64 k)) v K fr H:=by
 unfold rq;simp only[hu,a,b];refine⟨rfl,Jl l,?_⟩;rw[c,NJ];exact d
def FC.i64(l:List (Int×α))(z:α)(hu:P.underlying t=some (.map kt e))(a:P.underlying kt=some (.int .i64))(b:H[o]?=some [lP f l])(c:GD P e=some (f z))(h:K (fr.put d (f (D1 l k z))) H):FC P t (.iR o) (.sc (.int .i64 k)) false d K fr H:=by
 have key:p6 P H t (.iR o) (.sc (.int .i64 k)) false=some (f (D1 l k z)):=by
  unfold p6;simp only[hu,a,b,c,lP];rw[cS ⟨rfl,Jl l⟩,Mw];obtain⟨g1,g2⟩:=Ms f l k;cases hi:l.findIdx? (λp=>p.1==k)with
  |none=>grind[D1]|some j=>grind[D1]
 grind[FC]
end
end Go.kC
