/- texts of the kp, du behind the jV -/
import Derived.Test.YtifflnhooaophaaGreatDoorVE
set_option linter.unusedVariables false
set_option linter.unusedSimpArgs false
set_option linter.unusedSectionVars false
set_option maxRecDepth 100000
open List Nat
namespace J
open Go Go.Ab
section
variable{F qc H K N ub S Y a ag cs uh e f gs i n j5 bb q r size t pc v dt y}{m:bh}{s:dU}{p:cv}
section
structure k1 (p:cv) (y:Nat):Prop where
 ho:p.st=1->p.w.s.ho≠0
 c4:p.w.s.c4<=1+y
 dH:p.w.m.d.cells.length=60
 aK:p.az.aK.length<=60+10*y
theorem avy:(m.fH pc bb).1.d.cells.length=m.d.cells.length:=by unfold bh.fH;split;rfl;rw[bh.yM];exact ba.Ti
theorem YH{s:LI}:(m.fh pc bb s).1.d.cells.length=m.d.cells.length:=by unfold bh.fh;split;rfl;rw[bh.yM];exact ba.Tj
theorem Mf(a:∀m,(f m).1.d.cells.length=m.d.cells.length):(s.as m t f).1.d.cells.length=m.d.cells.length:=by unfold dU.as;split;exact a _;rfl
theorem avz{w:bG}:w.step.2.m.d.cells.length=w.m.d.cells.length:=by
 unfold bG.step;split;rfl;split;unfold bG.mj;split;exact Mf fun m=>avy
 rfl;split;have ah:w.ig.m.d.cells.length=w.m.d.cells.length:=Mf fun m=>ba.Js
 unfold bG.py;split;exact ah;split<;>exact ah;split;rename_i x ae _;have ah:(w.jA x).m.d.cells.length=w.m.d.cells.length:=Mf fun m=>YH
 unfold bG.fill;split<;>exact ah;split;rfl;rename_i a q _;have:∀aM:bG,(aM.gv a).m=aM.m:=by intro aM;unfold bG.gv;split;split;unfold bG.q8;split;rfl;split<;>rfl;rfl;split;unfold bG.body;split<;>rfl;split<;>rfl;rfl
 rw[this]
theorem Cb:(s.drop t).c4=s.c4:=by unfold dU.drop;split<;>rfl
theorem Mg:(p.iG i uh e cs).2.w.m=p.w.m/\(p.iG i uh e cs).2.w.s.c4=p.w.s.c4/\((p.iG i uh e cs).2.st=1->(p.iG i uh e cs).2.w.s=p.w.s/\p.st=1):=by
 have b:∀q:cv,q.w=p.w->q.st=p.st->(if e≠0 then q.im 3 e else if cs then q.im 2 0 else q:cv).w.m=p.w.m/\(if e≠0 then q.im 3 e else if cs then q.im 2 0 else q:cv).w.s.c4=p.w.s.c4/\((if e≠0 then q.im 3 e else if cs then q.im 2 0 else q:cv).st=1->(if e≠0 then q.im 3 e else if cs then q.im 2 0 else q:cv).w.s=p.w.s/\p.st=1):=by intro q a ah;split;exact⟨by rw[<- a];rfl,by rw[<- a];exact Cb,fun h=>absurd h (show¬(3:Int)=1 by decide)⟩;split;exact⟨by rw[<- a];rfl,by rw[<- a];exact Cb,fun h=>absurd h (show¬(2:Int)=1 by decide)⟩;exact⟨by rw[a],by rw[a],fun h=>⟨by rw[a],ah.symm.trans h⟩⟩
 exact b (if uh then {p with d:=p.d.n7 i}else p) (by split<;>rfl) (by split<;>rfl)
theorem avA:(p.step dt).2.w.m.d.cells.length=p.w.m.d.cells.length/\(p.step dt).2.w.s.c4=p.w.s.c4/\((p.step dt).2.st=1->(p.step dt).2.w.s=p.w.s/\p.st=1):=by unfold cv.step;by_cases e:p.st=1;rw[if_neg U];split;unfold cv.ud;split;exact⟨rfl,Cb,fun h=>absurd h (show¬(3:Int)=1 by decide)⟩;exact⟨rfl,rfl,fun _=>⟨rfl,e⟩⟩;split;rw[Lb];obtain⟨a,b,c⟩:=Mg;exact⟨by rw[a];rfl,b,c⟩;split;rw[Lc];obtain⟨a,b,c⟩:=Mg;exact⟨by rw[a];rfl,b,c⟩;split;rw[Ld];obtain⟨a,b,c⟩:=Mg;have k:=Le (w:={p.w with q:=p.c.gW});refine⟨by rw[a];exact avz,by rw[b];show p.rw.2.s.c4=_;unfold cv.rw;rw[k.1],fun h=>?_⟩;have⟨f,g⟩:=c h;exact⟨f.trans k.1,g⟩;exact⟨rfl,rfl,fun _=>⟨rfl,e⟩⟩;rw[if_pos e];exact⟨rfl,rfl,fun h=>⟨rfl,h⟩⟩
theorem k1.mono(h:k1 p y):k1 p (y+1):=⟨h.ho,by have:=h.c4;omega,h.dH,by have:=h.aK;omega⟩
theorem k1.sX(h:k1 p y):k1 (p.sX a) (y+1):=by unfold cv.sX;split;exact⟨h.ho,h.mono.c4,h.dH,h.mono.aK⟩;exact h.mono
theorem k1.sY(h:k1 p y):k1 p.sY.2 (y+1):=by unfold cv.sY;split;exact h.mono;exact⟨fun e=>absurd e (show¬(4:Int)=1 by decide),by show(p.w.s.drop _).c4<=_;rw[Cb];exact h.mono.c4,h.dH,h.mono.aK⟩
theorem k1.step(h:k1 p y):k1 (p.step dt).2 (y+1):=by obtain⟨b,c,a⟩:=avA;exact⟨fun e=>by rw[(a e).1];exact h.ho (a e).2,by rw[c];exact h.mono.c4,by rw[b];exact h.dH,by have:=V.asU (p:=p) (dt:=dt);have:=h.mono.aK;omega⟩
theorem k1.h6(a:gs.length<=10)(h:k1 p y):k1 {p with az:={p.az with aK:=p.az.aK++gs}} (y+1):=⟨h.ho,h.mono.c4,h.dH,by show(p.az.aK++gs).length<=_;rw[length_append];have:=h.aK;omega⟩
theorem Ge(h:s.br):(s.dv 7 0).2.2.br:=by
 unfold dU.dv
 (repeat' split)<;>first|exact h|exact⟨⟨Int.le_refl 0,(by decide:(0:Int)<2)⟩,h.p⟩
theorem Mh(h:s.qh):(s.dv 7 0).2.2.qh:=by
 unfold dU.dv
 (repeat' split)<;>first|exact h|exact fun _=>rfl
theorem avB:(s.dv 7 0).2.2.part i=s.part i:=by
 unfold dU.dv
 (repeat' split)<;>rfl
theorem Mi(h:s.ho≠0):s.dv 7 0=(0,161,s):=by unfold dU.dv;rw[if_neg U,if_pos h]
theorem avC:(s.drop t).part i=s.part i:=by unfold dU.drop;split<;>rfl
theorem YI(h:s.ho≠0):s.drop 0=s:=if_neg (fun e=>h e.2)
theorem avD:(s.dv 7 0).2.2.c4<=s.c4+1:=by
 unfold dU.dv
 (repeat' split)<;>first|exact le_succ _|exact Nat.le_refl _
end
variable[c0:cH]
theorem n9.avE(h:n9 S q p N)(f:N<=1000)(b:k1 p y):Ma p:=by
 refine⟨h.m,h.ny.mono U,by rw[b.dH];decide,by have:=h.bU;omega,h.d1,h.d2,?_,h.kg⟩;have c:=h.d1
 match e:p.d.cb,c with
 | a::r,_=>have:=h.d2 a (by rw[e];exact mem_cons_self);omega
theorem cl.avF(h:cl H S F q p N)(a:F.Perm qc):cl H S qc q p N:=by have⟨ar,R,b,c⟩:=h;exact⟨ar,R,b,c.cf (((a.append_right R).append_left S).append_right _)⟩
abbrev iI(H:an)(S F:LB)(q:iy)(p:cv)(N:Nat)(r:og)(j5:cv):Prop:=ql S r j5/\cl H S (F++(k0 r j5++li r j5)) q p N
theorem iI.mk(a:ql S r j5)(h:cl H S ((F++(k0 r j5++li r j5))++Y) q p N):iI H S (F++Y) q p N r j5:=⟨a,h.avF (cO fun x=>by simp[countP_append];omega)⟩
theorem iI.sub(h:iI H S F q p N r j5)(ah:qc.Sublist F):iI H S qc q p N r j5:=⟨h.1,h.2.sub (ah.append (List.Sublist.refl _))⟩
theorem iI.mono(h:iI H S F q p N r j5)(a:N<=ub):iI H S F q p ub r j5:=⟨h.1,h.2.mono a⟩
theorem iI.vD(h:iI H S F q p N r j5):∃a,jC H S (F++a) r j5/\(∀E bQ b5,jC E S (F++a) bQ b5->iI E S F q p N bQ b5)/\(∀E X bQ b5,jC E (S++X) (F++a) bQ b5->iI E (S++X) F q p N bQ b5)/\(∀E Y bQ b5,jC E S ((F++a)++Y) bQ b5->iI E S (F++Y) q p N bQ b5):=by have⟨e,ar,R,d,f⟩:=h;refine⟨R++km q p,⟨e,f.cf (cO fun x=>by simp[countP_append];omega)⟩,?_,?_,?_⟩;rintro E bQ b5 ⟨b,c⟩;exact⟨b,ar,R,d,c.cf (cO fun x=>by simp[countP_append];omega)⟩;rintro E X bQ b5 ⟨b,c⟩;exact⟨b,ar.app,R,d,c.cf (cO fun x=>by simp[countP_append];omega)⟩;rintro E Y bQ b5 ⟨b,c⟩;exact⟨b,ar,R,d,c.cf (cO fun x=>by simp[countP_append];omega)⟩
theorem YJ(h:dK size v n ag)(a:0<n):∃p c,v=Go.Ab.am p 0 n c/\aw v ag=[aa p ag]:=by
 rcases h with⟨_,h,_⟩|⟨p,rfl|rfl,_⟩
 omega;exact⟨_,_,rfl,rfl⟩;exact⟨_,_,rfl,rfl⟩
theorem cl.Ln(h:cl H S F q p N)(j:∀E ex,q.en ex->dK 4 q.L.e0 p.w.m.bm.length (hM p.w.m.bm)->p.w.m.bm.length<=N->cl E S (F++aw q.L.e0 (hM p.w.m.bm)) ex {p with w:={p.w with m:={p.w.m with bm:=[]}}} N->K q.L.e0 E):aG P 30 [ad q.L.bn 0] H K:=by
 have⟨ar,R,k,e⟩:=h;have f:ac H (((S++(F++R))++[aa q.c (q.bz p),aa q.aL (eq p.w.s q.L.bn),aa q.w (q.W.hF p.w),aa q.aC (fl q.bR q.fv p.az.bU),(q.bw,fP p.d.cm p.d.eX q.aF p.d.cb.length),(q.aF,fK p.d.cb),aa q.co (kY q p.w.bH p.st p.gg)])++cR q.L p.w.m):=by rw[append_assoc];exact e
 apply To f ar.own;intro E e g;have i:jz {p.w.m with bm:=[]}:=⟨⟨ar.m.ok.d,ar.m.ok.s,ar.m.ok.n⟩,ar.m.b⟩;refine j E {q with L:={q.L with e0:=aA}} ⟨rfl,rfl,rfl,rfl,rfl,rfl,rfl,rfl⟩ ar.own.o ar.ny.2 ⟨⟨ar.oY,ar.re,ar.rf,ar.rg,ar.pB,ar.s,i,g,⟨ar.ny.1,zero_le _⟩,ar.az,ar.bU,ar.d1,ar.d2,ar.kg,fun h=>?_⟩,R,k,?_⟩;have⟨pg,wx,a,l,l5⟩:=ar.dO h;exact⟨pg,wx,⟨a.q,a.au,a.aO,a.cM,a.n4,a.s,i,g,a.b6,a.wr⟩,l,l5⟩;show ac E ((S++((F++aw q.L.e0 (hM p.w.m.bm))++R))++([aa q.c (q.bz p),aa q.aL (eq p.w.s q.L.bn),aa q.w (q.W.hF p.w),aa q.aC (fl q.bR q.fv p.az.bU),(q.bw,fP p.d.cm p.d.eX q.aF p.d.cb.length),(q.aF,fK p.d.cb),aa q.co (kY q p.w.bH p.st p.gg)]++cR {q.L with e0:=aA} {p.w.m with bm:=[]}));exact e.cf (cO fun r=>by simp[countP_cons];omega)
theorem cl.ei(t:a<=9223372036854775807)(h:cl H S F q p N)(k:∀E,cl E S F q {p with w:={p.w with m:={p.w.m with d:=p.w.m.d.sF a}}} N->K (.tuple [].toArray) E):aG P 33 [ad q.L.aS 0,int a] H K:=by have⟨ar,R,l,f⟩:=h;rw[BT,<- append_assoc]at f;apply alo (cR.pY f);intro E f;have f:=cR.yL (m:={p.w.m with d:=p.w.m.d.sF a}) f;have g:=ar.m.ok.d;have i:jz {p.w.m with d:=p.w.m.d.sF a}:=⟨⟨⟨g.c,g.n,g.ds,g.m,by show-1<=max a (-1)/\max a (-1)<=9223372036854775807;omega⟩,ar.m.ok.s,ar.m.ok.n⟩,ar.m.b⟩;have j:jg q.L {p.w.m with d:=p.w.m.d.sF a}:=⟨ar.own.d,ar.own.o⟩;refine k E ⟨⟨ar.oY,ar.re,ar.rf,ar.rg,ar.pB,ar.s,i,j,ar.ny,ar.az,ar.bU,ar.d1,ar.d2,ar.kg,fun h=>?_⟩,R,l,?_⟩;have⟨pg,wx,e,r,l5⟩:=ar.dO h;exact⟨pg,wx,⟨e.q,e.au,e.aO,e.cM,e.n4,e.s,i,j,e.b6,e.wr⟩,r,l5⟩;rw[BT,<- append_assoc];exact f
theorem cl.aL(h:cl H S F q p N):∃ ab bL,ac H ((ab++[aa q.aL (eq p.w.s q.L.bn)])++bL)/\∀E bJ,bJ.br->(p.st=1->bJ=p.w.s)->ac E ((ab++[aa q.aL (eq bJ q.L.bn)])++bL)->cl E S F q {p with w:={p.w with s:=bJ}} N:=by have⟨ar,R,f,a⟩:=h;refine⟨S++(F++R)++[aa q.c (q.bz p)],[aa q.w (q.W.hF p.w),aa q.aC (fl q.bR q.fv p.az.bU),(q.bw,fP p.d.cm p.d.eX q.aF p.d.cb.length),(q.aF,fK p.d.cb),aa q.co (kY q p.w.bH p.st p.gg)]++cR q.L p.w.m,a.cf (cO fun g=>by simp only[km,countP_append,countP_cons,countP_nil];omega),?_⟩;intro E bJ ah i a;have a:ac E ((S++(F++R))++([aa q.c (q.bz p),aa q.aL (eq bJ q.L.bn),aa q.w (q.W.hF p.w),aa q.aC (fl q.bR q.fv p.az.bU),(q.bw,fP p.d.cm p.d.eX q.aF p.d.cb.length),(q.aF,fK p.d.cb),aa q.co (kY q p.w.bH p.st p.gg)]++cR q.L p.w.m)):=a.cf (cO fun g=>by simp only[countP_append,countP_cons,countP_nil];omega);by_cases b:p.st=1;have e:=i b;subst e;exact⟨ar,R,f,a⟩;exact⟨⟨ar.oY,ar.re,ar.rf,ar.rg,ar.pB,ah,ar.m,ar.own,ar.ny,ar.az,ar.bU,ar.d1,ar.d2,ar.kg,fun h=>absurd h b⟩,R,fun h=>absurd h b,a⟩
theorem jC.aL(h:jC H S F r p):∃ ab bL,ac H ((ab++[aa r.aL (gJ p.w.s r.M.bn)])++bL)/\∀E bJ,bJ.br->bJ.qh->(∀i,bJ.part i=p.w.s.part i)->ac E ((ab++[aa r.aL (gJ bJ r.M.bn)])++bL)->jC E S F r {p with w:={p.w with s:=bJ}}:=by have⟨a,b⟩:=h;refine⟨(S++F)++[aa r.co (oh r p),aa r.bY (fq r.aC p.l r.d3 r.ly r.c3 p.c.aC),aa r.aC [r.fL,r.fv,int p.az.bU],aa r.c (r7 r p),aa r.st (it p.c r.aq r.cC),aa r.dh (lV r.aL p.w.bH p.w.b4 r.ov p.w.au r.aO p.w.b6 r.bX p.w.wr p.w.b8 p.w.aX)],[(r.bw,fP p.d.cm p.d.eX r.aF p.d.cb.length),(r.aF,fK p.d.cb)]++li r p,?_,?_⟩;simp[nil_append]at b⊢;exact b;intro E bJ ah f g b;refine⟨⟨a.k,a.l,a.n,⟨a.w.q,a.w.au,a.w.aO,a.w.cM,a.w.oc,a.w.od,ah,f,a.w.am,a.w.r,a.w.z,a.w.wr,a.w.qk,fun e=>?_,a.w.aF⟩,a.M,a.hu⟩,?_⟩;have:=a.w.pD e;show p.w.au.cY<=64*((p.w.m.size (bJ.part p.w.b4):Nat):Int);rw[g];exact this;simp[nil_append]at b⊢;exact b
omit c0 in
theorem avG{a:bh}{b:bh}(h:a.e3=b.e3):a.size i=b.size i:=by cases a;cases b;cases h;rfl
theorem jC.dC(h:jC H S F r p):∃ ab,ac H (ab++cW r.M p.w.m)/\∀E cL b X,cL.bn=r.M.bn->gX cL b->b.e3=p.w.m.e3->ac E ((ab++X)++cW cL b)->jC E S (F++X) {r with M:=cL} {p with w:={p.w with m:=b}}:=by
 have⟨a,c⟩:=h;refine⟨((S++F)++k0 r p)++(aw r.bc r.bZ++(aw r.cp r.ep++(aw r.ov r.dq++(aw r.cC r.e5++(aw r.bX (fk p.w.cM)++aw r.fv (ee p.az.aK)))))),?_,?_⟩;simp[append_assoc]at c⊢;exact c;intro E cL b X f g d c;refine⟨⟨a.k,a.l,a.n,⟨a.w.q,a.w.au,a.w.aO,a.w.cM,a.w.oc,a.w.od,a.w.s,a.w.c4,a.w.am,a.w.r,a.w.z,a.w.wr,a.w.qk,fun e=>?_,a.w.aF⟩,g,a.hu⟩,?_⟩;have:=a.w.pD e;have j:∀i,b.size i=p.w.m.size i:=fun i=>avG d
 show p.w.au.cY<=64*((b.size (p.w.s.part p.w.b4):Nat):Int);rw[j];exact this;have o:k0 {r with M:=cL} {p with w:={p.w with m:=b}}=k0 r p:=by unfold k0;rw[show({r with M:=cL}:og).M.bn=r.M.bn from f];rfl
 rw[o];exact c.cf (cO fun x=>by simp[li];omega)
theorem jC.cj(h:jC H S F r p):∃W,ac H (((S++F)++W)++([aa r.aC [r.fL,r.fv,int p.az.bU]]++aw r.fv (ee p.az.aK)))/\∀E b a,dK 3 b a.length (ee a)->(∀f∈a,f.v<256)->a.length<=100000->ac E (((S++F)++W)++([aa r.aC [r.fL,b,int p.az.bU]]++aw b (ee a)))->jC E S F {r with fv:=b} {p with az:={p.az with aK:=a}}:=by have⟨e,g⟩:=h;refine⟨[aa r.co (oh r p),aa r.bY (fq r.aC p.l r.d3 r.ly r.c3 p.c.aC),aa r.c (r7 r p),aa r.st (it p.c r.aq r.cC),aa r.dh (lV r.aL p.w.bH p.w.b4 r.ov p.w.au r.aO p.w.b6 r.bX p.w.wr p.w.b8 p.w.aX),aa r.aL (gJ p.w.s r.M.bn),(r.bw,fP p.d.cm p.d.eX r.aF p.d.cb.length),(r.aF,fK p.d.cb)]++(aw r.bc r.bZ++(aw r.cp r.ep++(aw r.ov r.dq++(aw r.cC r.e5++(aw r.bX (fk p.w.cM)++cW r.M p.w.m))))),g.cf (cO fun x=>by simp[k0,li,countP_cons];omega),?_⟩;intro E b a i j o g;refine⟨⟨e.k,e.l,⟨e.n.of,e.n.off,e.n.uE,e.n.on,i,j,o⟩,e.w,e.M,e.hu⟩,?_⟩;have g:ac E (((S++F)++[aa r.co (oh r p),aa r.bY (fq r.aC p.l r.d3 r.ly r.c3 p.c.aC),aa r.aC [r.fL,b,int p.az.bU],aa r.c (r7 r p),aa r.st (it p.c r.aq r.cC),aa r.dh (lV r.aL p.w.bH p.w.b4 r.ov p.w.au r.aO p.w.b6 r.bX p.w.wr p.w.b8 p.w.aX),aa r.aL (gJ p.w.s r.M.bn),(r.bw,fP p.d.cm p.d.eX r.aF p.d.cb.length),(r.aF,fK p.d.cb)])++(aw r.bc r.bZ++(aw r.cp r.ep++(aw r.ov r.dq++(aw r.cC r.e5++(aw r.bX (fk p.w.cM)++(aw b (ee a)++cW r.M p.w.m))))))):=g.cf (cO fun x=>by simp[countP_cons];omega);exact g
end
section
variable{H a b c n}
theorem Mj(b:Bool):(cz P .eql 4 false).f (.bool b) (.bool b)=some (.bool true):=by cases b<;>kernel_rfl
theorem avH:k5 [int (n-a),int (n-b),int (n-c)]=some (int (n-rb [a,b,c])):=by
 have d:k5 [int (n-a),int (n-b),int (n-c)]=some (int (cond (hq (cond (hq (n-a) (n-b)) (n-a) (n-b)) (n-c)) (cond (hq (n-a) (n-b)) (n-a) (n-b)) (n-c))):=rfl;have key:∀x y:Int,cond (hq x y) x y=min x y:=by intro x y;rw[i0];by_cases h:x<=y;rw[decide_eq_true h];show x=_;omega;rw[decide_eq_false h];show y=_;omega
 rw[d,key,key];have e:rb [a,b,c]=max (max (max a a) b) c:=rfl
 congr 2
 omega
theorem avI:iJ H (k5 [int (n-a),int (n-b),int (n-c)])=some (int (n-rb [a,b,c]),H):=by rw[avH];rfl
end
end J
