/- Part of the proof of TranslateStable: layer. -/
import Derived.Test.YtffcgfpaakhbjaaGreatDoorL18
set_option linter.all false
namespace Go.jN
open Go Go.dG
section
variable{P:Program} {T:cV} {n B0:Nat} {ρ:Maps} {F:js} {R:Nat->mP} {fr:Fr} {H:cc} {a:Act} {w:World}
def WR.UZ(h:WR T n B0 ρ F R fr H a w){d:Nat}{cs:List AV}(z:fr.box d=some cs):WR T n B0 ρ F (eO R (ρ.L d (fr.gen d)) .free) {fr with box:=eO fr.box d none} H a w:=by
 obtain⟨E,A,G,vs,ty,I,J⟩:=h.box d cs z
 have f:∀p,R p≠ .box d->eO R (ρ.L d (fr.gen d)) .free p=R p:=by
  intro p r;unfold eO;rw[bV];rintro rfl;exact r A
 refine⟨h.g,h.size,h.defers,h.env,h.hn,h.lg,h.ag,?_,?_,?_,?_,?_,h.oY⟩
 ·intro q s i;simp only[eO] at i
  by_cases he:q=d
  ·rw[bX he] at i;cases i
  ·rw[bV he] at i;obtain⟨t,l,u⟩:=h.box q s i;exact⟨t,by rw[f _ (by rw[l];intro e;injection e with e;exact he e)];exact l,u⟩
 ·intro k m B b c sz C;obtain⟨t,l,u⟩:=h.tok k m B b c sz C;exact⟨t,by rw[f _ (by rw[l];simp)];exact l,u⟩
 ·intro b j v x q;rw[f b (h.oV b j v x d)];exact h.oV b j v x q
 ·intro o y;rw[f _ (by rw[h.mL o y];simp)];exact h.mL o y
 ·intro b D;have:R b=.free:=h.ki b D;rw[f b (by rw[this];simp)];exact this
def WR.share(h:WR T n B0 ρ F R fr H a w){d:Nat}{cs:List AV}(c:fr.box d=some cs)(he:fr.env d=.gx d (fr.gen d) 0):∃ρ' f,(∀o,o<H.length->ρ'.G o=ρ.G o)/\ρ'.G H.length=ρ.L d (fr.gen d)/\B0<=ρ.L d (fr.gen d)/\WR T n B0 ρ' F f {fr with env:=eO fr.env d (.di H.length 0),box:=eO fr.box d none} (H++[cs.map AV.gA]) a w:=by
 obtain⟨k,l,m,vs,ty,q,r⟩:=h.box d cs c;have s:=(sY (by have:=h.env d;rw[he] at this;exact this)).1
 have hF:∀j,F (ρ.L d (fr.gen d)) j=none:=by
  intro j;cases u:F (ρ.L d (fr.gen d)) j with
  |none=>rfl|some v=>exact absurd l (h.oV _ j v u d)
 obtain⟨ρ',f,hG,e,i,hw⟩:=(h.UZ c).Jm (b:=ρ.L d (fr.gen d)) (by simp[eO]) hF q (.cells (.inl rfl) (r.tE AV.gA λ_ _ _ h=>h.gA) (vy m));refine⟨ρ',f,hG,e,k,?_⟩;refine⟨hw.g,hw.size,hw.defers,?_,hw.hn,hw.lg,hw.ag,hw.box,hw.tok,hw.oV,hw.mL,hw.ki,hw.oY⟩;intro t;have x:=hw.env t;simp only[eO]
 by_cases c:t=d
 ·subst c;rw[bX rfl,s,<-e];exact .cell (.p (.di (by rw[i];omega)))
 ·rw[bV c];exact x
def fA.WY{c:Code}{Q:Exit->Fr->cc->Prop}{d:Nat}{cs:List AV}(f:fr.box d=some cs)(he:fr.env d=.gx d (fr.gen d) 0)(h:fA P T n c Q {fr with env:=eO fr.env d (.di H.length 0),box:=eO fr.box d none} (H++[cs.map AV.gA])):fA P T n c Q fr H:=by
 intro G0 F0 n0 w0 a w hs;refine h G0 F0 n0 w0 a w ?_;obtain⟨ρ,F,R,hw,g⟩:=hs;obtain⟨ρ',i,hG,b,j,e⟩:=hw.share f he;refine⟨ρ',F,i,e,?_⟩;rw[ni];exact g.WL hG (by rw[b];exact j)
end
section
variable{X:Cx} {k:Nat} {S:List It} {fr:Fr} {H:cc} {c:Code}
def GF(k:Nat){d:Nat}{cs:List AV}(b:fr.box d=some cs)(he:fr.env d=.gx d (fr.gen d) 0)(h:Wf X k (.c c::S) {fr with env:=eO fr.env d (.di H.length 0),box:=eO fr.box d none} (H++[cs.map AV.gA])):Wf X 0 (.c c::S) fr H:=
 λhm a=>fA.WY b he (iE X k _ _ _ h hm a)
end
end Go.jN
