/- texts of the proof, one behind the other -/
import Derived.Test.YtlkkkfmjfpeooaaGreatDoorUI
set_option linter.unusedVariables false
set_option linter.unusedSimpArgs false
set_option linter.unusedSectionVars false
set_option maxRecDepth 100000
namespace J
open Go Go.Ab
variable{d d':Dv}{m m':Mp}{x b:List Int}{xs:List (List Int)}{n k y e C j D:Nat}{w w' w1 w2:Wr}{sl:Int}{f g:Nat→List Int}{nt:Sn}{q:List Sn}{md:Mf}{gh:Int}
structure Pre (w:Wr) (n:Nat) (sl:Int) (f g:Nat→List Int):Prop where
 r:Rd w n sl f g
 er:w.er=0
 sg:w.sg=0
 ss:w.ss=[]
 nx:w.nx=0
 wr0:w.wr=0
 wear:∀ j,wr w.m.d j≤0
structure Mid (w:Wr) (n:Nat) (sl:Int) (g:Nat→List Int) (md:Mf) (b:List Int) (j:Nat):Prop where
 r:Rd w n sl (zql b w.wr) g
 er:w.er=0
 sg:w.sg=2
 ss:w.ss=[]
 nx:w.nx=j
 sd:w.sd=md
theorem Rd.qq(h:Rd w n sl f g)(q:List Sn):Rd { w with q:=q } n sl f g:=⟨h.hold,h.s1,h.s2,h.p0,h.p1,h.bit,h.two,h.up,h.bud,h.most,h.f,h.g⟩
theorem zBE(h:Pre w n sl f g)(hq:w.q=.go gh md::q)(hr:znb md)(hz:md.sz≤64 * (n:Int))(hn:n≤90) :
  ∃ w',Ch (zdc f n+2) w w'∧Mid w' n sl g md b 0∧w'.q=q∧w'.wr=0∧w'.s=w.s∧w'.m.who=w.m.who:=by
 have hsz:({ w with q:=q }:Wr).size=n:=(h.r.qq q).size
 have s1:w.step=(true,{ w with q:=q,sd:=md,sg:=1,er:=0 }):=by
  rw[zJj h.er (.inl h.sg) h.ss hq]
  unfold Wr.heed
  rw[if_pos h.sg]
  show (true,({ w with q:=q }:Wr).begin md)=_
  unfold Wr.begin
  rw[if_neg (by simp[hr]),hsz,if_neg (by omega)]
 have hdl:=zfq (f:=f) (n:=n)
 obtain⟨w',c1,c2,c3,c4,c5,c6,c7,c8,c9,c10⟩:=zyB (zdc f n) (w:={ w with q:=q,sd:=md,sg:=1,er:=0 }) (f:=f) (e:=0) (n:=n) (sl:=sl) (g:=g) rfl
  ⟨h.r.hold,h.r.s1,h.r.s2,h.r.p0,h.r.p1,h.r.bit,h.r.two,h.r.up,h.r.bud,h.r.most,h.r.f,h.r.g⟩ rfl rfl h.wear (by omega)
 have hw0:w'.wr=0:=c9.trans h.wr0
 exact⟨w',.step s1 c1,⟨c2.congr fun i hi=>by unfold zql; rw[if_neg (by omega)],c3,c4,c8.trans h.ss,c7.trans h.nx,c6⟩,c5,hw0,c10.s,c10.who⟩
theorem zBB{c:List Int}(h:k < zBd c.length):(zxe c).getD k []=zWv ((c.drop (64 * k)).take 64):=by
 unfold zxe
 rw[List.getD_eq_getElem?_getD,List.getElem?_map,List.getElem?_range h]; rfl
theorem zCB{a l:Nat}(ha:64 * a+l≤b.length)(he:l % 64=0∨64 * a+l=b.length)(hk:k < zBd l):zWv ((((b.drop (64 * a)).take l).drop (64 * k)).take 64)=zoG b (a+k):=by
 unfold zoG
 unfold zBd at hk
 congr 1
 rw[List.drop_take,List.take_take,List.drop_drop,show 64 * a+64 * k=64 * (a+k) by omega]
 rcases he with he|he
 ·rw[Nat.min_eq_left (by omega)]
 ·have hl:(b.drop (64 * (a+k))).length=l - 64 * k:=by rw[List.length_drop]; omega
  by_cases h6:64≤l - 64 * k
  ·rw[Nat.min_eq_left h6]
  ·rw[Nat.min_eq_right (by omega),List.take_of_length_le (by omega),List.take_of_length_le (by omega)]
theorem zsx{l:Nat}(h:Mid w n sl g md b j)(hq:w.q=.body j ((b.drop (64 * w.wr)).take l)::q)(hsp:(zgd md j).2=l)(hl0:l≠0)(hn:w.wr+zBd l≤n)
  (ha:64 * w.wr+l≤b.length) (he:l % 64=0∨64 * w.wr+l=b.length) :
  ∃ w',Ch (zBd l+1) w w'∧Mid w' n sl g md b (j+1)∧w'.q=q∧w'.wr=w.wr+zBd l∧w'.s=w.s∧w'.m.who=w.m.who:=by
 have hcl:((b.drop (64 * w.wr)).take l).length=l:=by rw[List.length_take,List.length_drop]; omega
 generalize hc:(b.drop (64 * w.wr)).take l=c at *
 have s1:w.step=(true,{ w with q:=q,ss:=zxe c,nx:=w.nx+1,er:=0 }):=by
  rw[zJj h.er (.inr h.sg) h.ss hq]
  unfold Wr.heed
  rw[if_neg (by show ¬ w.sg=0; rw[h.sg]; decide)]
  show (true,({ w with q:=q }:Wr).body j c)=_
  unfold Wr.body
  rw[if_neg]
  show ¬ ((j:Int)≠w.nx∨(zgd w.sd j).2=0∨(c.length:Int)≠(zgd w.sd j).2)
  rw[h.sd,hsp,h.nx,hcl]
  rintro (h1|h1|h1)
  ·exact h1 rfl
  ·omega
  ·exact h1 rfl
 have hsl:(zxe c).length=zBd l:=by rw[zpm,hcl]
 obtain⟨w',c1,c2,c3,c4,c5,c6,c7,c8,c9,c10⟩:=zQD (zxe c) (w:={ w with q:=q,ss:=zxe c,nx:=w.nx+1,er:=0 }) (f:=zql b w.wr) (n:=n) (sl:=sl) (g:=g)
  ⟨h.r.hold,h.r.s1,h.r.s2,h.r.p0,h.r.p1,h.r.bit,h.r.two,h.r.up,h.r.bud,h.r.most,h.r.f,h.r.g⟩ rfl h.sg rfl (by rw[hsl]; exact hn) (fun i h1 h2=>by
   have h1:w.wr≤i:=h1
   unfold zql; rw[if_neg (by omega)])
 rw[hsl] at c1 c9
 have c9:w'.wr=w.wr+zBd l:=c9
 refine⟨w',.step s1 c1,⟨c2.congr fun i hi=>?_,c3,c4,c8,by rw[c7]; show w.nx+1=_; rw[h.nx],c6.trans h.sd⟩,c5,c9,c10.s,c10.who⟩
 show znG (zql b w.wr) w.wr (zxe c) i=zql b w'.wr i
 rw[c9]
 unfold znG
 rw[hsl]
 by_cases h1:w.wr≤i∧i < w.wr+zBd l
 ·rw[if_pos h1,zBB (by rw[hcl]; omega),← hc,zCB ha he (by omega)]
  unfold zql
  rw[if_pos h1.2]
  congr 1; omega
 ·rw[if_neg h1]
  unfold zql
  by_cases h2:i < w.wr
  ·rw[if_pos h2,if_pos (by omega)]
  ·rw[if_neg h2,if_neg (by omega)]
theorem zDB(h:Mid w n sl g md b j)(hq:w.q=[.fin])(hj:j=md.cks.length)(hw:w.wr=zBd b.length)(hn:w.wr≤n)(hsz:md.sz=b.length)(hd:md.dg=sha b) :
  ∃ w',Ch 2 w w'∧Rd w' n sl (zql b (zBd b.length)) g∧w'.er=0∧w'.sg=4∧w'.wr=zBd b.length∧w'.m.d.done=[]:=by
 have s1:w.step=(true,{ w with q:=[],sg:=3 }):=by
  rw[zJj h.er (.inr h.sg) h.ss hq]
  unfold Wr.heed
  rw[if_neg (by show ¬ w.sg=0; rw[h.sg]; decide)]
  show (true,if w.nx < w.sd.cks.length then _ else _)=_
  rw[if_neg (by rw[h.nx,h.sd,hj]; omega)]
 have hall:=zhq (b:=b) (n:=n) (by omega)
 have hbl:b.length≤64 * zBd b.length:=by unfold zBd; omega
 have hr:=h.r
 rw[hw] at hr
 obtain⟨w',c1,c2,c3,c4,c5,c6⟩:=close_run (w:={ w with q:=[],sg:=3 }) (n:=n) (sl:=sl) (f:=zql b (zBd b.length)) (g:=g)
  ⟨hr.hold,hr.s1,hr.s2,hr.p0,hr.p1,hr.bit,hr.two,hr.up,hr.bud,hr.most,hr.f,hr.g⟩ h.er rfl (by
   show w.sd.sz≤_
   rw[h.sd,hsz,hall,List.length_append]; omega) (by
   show sha (List.take w.sd.sz.toNat _)=w.sd.dg
   rw[h.sd,hsz,hd,hall,Int.toNat_natCast,List.take_left' rfl])
 exact⟨w',.step s1 (.one c1),c2,c3,c4,c5.trans hw,c6⟩
theorem zEB{N:Nat}{F:Mp→Mp × Int}(h:w.m.Sm N)(hf:∀ m,m.Sm N→(F m).1.Sm (N+1)):(w.put (w.s.as w.m w.token F)).m.Sm (N+1):=zkJ h hf
theorem zpG{N:Nat}(h:w.m.Sm N):w.step.2.m.Sm (N+1):=by
 have h1:w.m.Sm (N+1):=h.mono (by omega)
 unfold Wr.step
 split
 ·exact h1
 split
 ·show w.wipe.m.Sm _
  unfold Wr.wipe
  split
  ·exact zEB h fun m hm=>Mp.erase_sm hm
  ·exact h1
 split
 ·show w.close.m.Sm _
  have hs:w.syncs.m.Sm (N+1):=zEB h fun m hm=>(Mp.sync_sm hm).mono (by omega)
  unfold Wr.close
  split
  ·exact hs
  split <;> exact hs
 split
 ·rename_i x xs _
  show (w.fill x xs).m.Sm _
  have hs:(w.fills x).m.Sm (N+1):=zEB h fun m hm=>Mp.program_sm hm
  unfold Wr.fill
  split <;> exact hs
 ·split
  ·exact h1
  ·rename_i nt q _
   have:∀ w1:Wr,(w1.heed nt).m=w1.m:=by
    intro w1
    unfold Wr.heed
    split
    ·split
     ·unfold Wr.begin; split; rfl; split <;> rfl
     ·rfl
    ·split
     ·unfold Wr.body; split <;> rfl
     ·split <;> rfl
     ·rfl
   show (({ w with q:=q }:Wr).heed nt).m.Sm _
   rw[this]
   exact h1
theorem zqG(h:0≤w.sd.sz)(nt:Sn):0≤(w.heed nt).sd.sz:=by
 unfold Wr.heed
 by_cases h0:w.sg=0
 ·rw[if_pos h0]
  cases nt with
  | go gh md=>
   show 0≤(w.begin md).sd.sz
   unfold Wr.begin
   by_cases hr:znb md
   ·rw[if_neg (by simp[hr])]
    split
    ·exact h
    ·obtain⟨_,_,_,z1,_⟩:=hr
     show 0≤md.sz
     omega
   ·rw[if_pos hr]; exact h
  | again a=>exact h
  | body a c=>exact h
  | fin=>exact h
 ·rw[if_neg h0]
  cases nt with
  | go gh md=>exact h
  | again a=>exact h
  | body a c=>show 0≤(w.body a c).sd.sz; unfold Wr.body; split <;> exact h
  | fin=>
   show 0≤(if w.nx < w.sd.cks.length then _ else _:Wr).sd.sz
   split <;> exact h
theorem zrG(h:0≤w.sd.sz):0≤w.step.2.sd.sz:=by
 unfold Wr.step
 split
 ·exact h
 split
 ·show 0≤w.wipe.sd.sz
  unfold Wr.wipe
  split <;> exact h
 split
 ·show 0≤w.close.sd.sz
  unfold Wr.close
  split
  ·exact h
  split <;> exact h
 split
 ·rename_i x xs _
  show 0≤(w.fill x xs).sd.sz
  unfold Wr.fill
  split <;> exact h
 ·split
  ·exact h
  ·rename_i nt q _
   exact zqG (w:={ w with q:=q }) h nt
end J
set_option maxRecDepth 100000
namespace J
open Go Go.Ab
variable{H:Heap}{Γ Γ1 Λ Δ S F X N:List (Nat × Blk)}{K:VH}{v cv:Value}{cs cs' el:List Value}{p q c k n:Nat}{e pos a gh:Int}{m:Mf}{L L':Mloc}{w w' w1:Wr}{B B':Wl}{b:List Int}{nt:Sn}{pr:List UInt8}
theorem zCu{ver:Nat}{ck:Int}(hn:zjo pr=0)(v1:1≤ver)(v2:ver≤281474976710656)(b1:1≤b.length)(b2:b.length≤65536)(c1:64≤ck)(c2:ck≤1024)(c3:ck % 64=0)(hc:cnt b.length ck≤64):znb (mkF pr ver ck b):=by
 have h0:0≤cnt b.length ck:=zlr
 refine⟨hn,v1,v2,?_,?_,c1,c2,c3,?_,?_⟩
 ·show (1:Int)≤((b.length:Nat):Int); omega
 ·show ((b.length:Nat):Int)≤65536; omega
 ·unfold mkF; rw[znl]; show _=cnt ((b.length:Nat):Int) ck; omega
 ·unfold mkF; rw[znl]; omega
def ziq:List UInt8:=[99,111,114,101]
def zjq:List Int:=[97,110,32,105,109,97,103,101]
theorem zDu:zjo ziq=0:=by kernel_rfl
theorem zCE:By zjq:=by intro x hx; simp[zjq] at hx; omega
theorem zrJ(H:Heap):(zoa P 22 8).f [(0,.int .u8 97),(1,.int .u8 110),(2,.int .u8 32),(3,.int .u8 105),(4,.int .u8 109),(5,.int .u8 97),(6,.int .u8 103),(7,.int .u8 101)] H=some (Go.Ab.sl H.next 0 8 3,H.push (by8 zjq)):=by kernel_rfl
theorem bGo(hd:m.dg.length=32)(n:Int)(a:Option Addr)(k c:Nat):(zxa P 49).f [(0,int n),(1,agg (mfC m (.slice a k c)))]=some (agg (int n::mfC m (.slice a k c))):=by
 obtain⟨pr,ver,sz,ck,dg,cks⟩:=m
 have hd:dg.length=32:=hd
 match dg,hd with
 | [a0,a1,a2,a3,a4,a5,a6,a7,a8,a9,a10,a11,a12,a13,a14,a15,a16,a17,a18,a19,a20,a21,a22,a23,a24,a25,a26,a27,a28,a29,a30,a31],_=>show _=_; kernel_rfl
theorem zFI:(zxa P 56).f []=some (agg []):=by kernel_rfl
theorem zDE(a:Int):(zxa P 65).f [(0,int a)]=some (agg [int a]):=by kernel_rfl
theorem zgI(e:Int)(a:Option Addr)(n c:Nat):(zxa P 54).f [(0,int e),(1,.slice a n c)]=some (agg [int e,.slice a n c]):=by kernel_rfl
theorem zhI(a:Option Addr)(n c:Nat):(zxa P 54).f [(1,.slice a n c)]=some (agg [int 0,.slice a n c]):=by kernel_rfl
def mA:Mf:=mkF ziq 1 64 zjq
theorem zNs:znb mA:=zCu zDu (by decide) (by decide) (by decide) (by decide) (by decide) (by decide) (by decide) (by decide)
theorem zTD:mA.Ok:=zpx (by decide) (by decide) (by decide) (by decide) (by decide)
theorem zEE:mA.cks.length=1:=by unfold mA mkF; rw[znl]; decide
theorem zGy{m:Mf}(hr:znb m)(h1:m.cks.length=1):(zgd m ((0:Nat):Int)).2=min m.ck m.sz:=by
 unfold zgd
 rw[if_neg (by intro h; rcases h with h|h|h; exact h hr; omega; rw[h1] at h; omega)]
 show min m.ck (m.sz - ((0:Nat):Int) * m.ck)=_
 simp
theorem zWd(hR:WrR S w B)(hn:NtR S nt [v])(hv1:oneCell v=true)(hO:WSt H S F w B)(hno:w.q.length=B.A.n→K (.bool false) H)
  (hyes:w.q.length < B.A.n→∀ H' B',B.Same B'→WrR S { w with q:=w.q++[nt] } B'→WSt H' S F { w with q:=w.q++[nt] } B'→K (.bool true) H'):wCall P zza [ptr B.A.r 0,v] H K:=by
 have hl:=hR.q.len
 refine zuy (Γ:=S++F) (i:=1) (j:=0) (zoB hO) rfl rfl (by decide) hR.q.rg hv1 ?_ ?_
 ·intro h
  exact hno (by omega)
 ·intro h H' cs' hrg hO'
  refine hyes (by omega) H' { B with A:=B.A.more cs' [v] } ⟨rfl,rfl,rfl,rfl,rfl,.rfl'⟩ ⟨hR.q.more hrg hn,hR.sd,hR.sv,hR.ss,hR.sb,hR.s,hR.m,hR.own,hR.nx,hR.wr⟩ ?_
  show St H' (((S++F)++wB (B.A.more cs' [v]) B.l _ B.c _)++MW B.L w.m)
  unfold wB
  rw[List.append_assoc,zKD]
  exact hO'
theorem zgc(h:B.Same B'):bnC B'=bnC B:=by
 unfold bnC; rw[h.L.m,h.l,h.r,h.c]
theorem zWb{N:Nat}(hR:WrR S w B)(hsz:0≤w.sd.sz)(hm:w.m.Sm N)(hN:N≤1000000)(hO:WSt H S F w B)(hk:∀ H' B' X,B.Same B'→WrR (S++X) w.step.2 B'→0≤w.step.2.sd.sz→w.step.2.m.Sm (N+1)→WSt H' (S++X) F w.step.2 B'→K (.bool w.step.1) H'):wCall P zGa [ptr B.c 0] H K:=
 zcw hR hsz (hm.mono hN) hO fun H' B' X h1 h2 h3=>hk H' B' X h1 h2 (zrG hsz) (zpG hm) h3
theorem zFB(h:w.step=(true,w1)):w.sg≠4:=by
 intro h4
 rw[zsm h4] at h
 injection h with h _
 cases h
theorem zGB{n:Nat}{sl:Int}(hn:1≤n)(h20:n≤20)(hb:Bit sl):Pre (w0 n sl) n sl (fun _=>blank) (fun _=>blank):=by
 have hg:∀ j,j < 60→((w0 n sl).m.d.cells.getD j zPb)=zxf:=by
  intro j hj
  show (List.replicate 60 zxf).getD j zPb=_
  rw[List.getD_eq_getElem?_getD,List.getElem?_replicate,if_pos hj]; rfl
 have ho:∀ b,off n b≤n:=by intro b; unfold off; split <;> omega
 refine⟨⟨⟨Nat.one_ne_zero,rfl⟩,rfl,rfl,rfl,rfl,hb,⟨⟨[],?_⟩,?_⟩,rfl,rfl,rfl,?_,?_⟩,rfl,rfl,rfl,rfl,rfl,?_⟩
 ·show [(0,n),(0+n,n)]=[(0,n),(n,n)]
  rw[Nat.zero_add]
 ·show n+n≤(List.replicate 60 zxf).length
  rw[List.length_replicate]; omega
 ·intro i hi
  unfold sn
  rw[hg _ (by have:=ho sl; omega)]; rfl
 ·intro i hi
  unfold sn
  rw[hg _ (by have:=ho (1 - sl); omega)]; rfl
 ·intro j
  show (((List.replicate 60 zxf).getD j zPb).wear:Int)≤0
  rw[List.getD_eq_getElem?_getD,List.getElem?_replicate]
  split
  ·exact Int.le_refl 0
  ·exact Int.le_refl 0
end J
set_option maxRecDepth 100000
namespace J
open Go Go.Ab
variable{H:Heap}{Γ Γ1 Λ Δ S F X N:List (Nat × Blk)}{K:VH}{v cv:Value}{cs cs' el:List Value}{p q c k n:Nat}{e pos a gh:Int}{m:Mf}{L L':Mloc}{w w' w1:Wr}{B B':Wl}{b:List Int}{nt:Sn}{pr:List UInt8}
theorem zHB(h:w.q=[.go 4 mA,.body 0 zjq,.fin])(hp:Pre w 2 1 (fun _=>blank) (fun _=>blank)) :
  ∃ w',Ch 6 w w'∧Rd w' 2 1 (zql zjq 1) (fun _=>blank)∧w'.er=0∧w'.sg=4∧w'.wr=1:=by
 obtain⟨w1,a1,a2,a3,a4,_,_⟩:=zBE (b:=zjq) hp h zNs (by show (8:Int)≤_; omega) (by omega)
 have hd:zdc (fun _=>blank) 2=0:=zpl fun _ _=>rfl
 rw[hd] at a1
 obtain⟨w2,b1,b2,b3,b4,_,_⟩:=zsx (l:=8) (q:=[.fin]) a2 (by rw[a3,a4]; rfl) (by
  have:=zGy zNs zEE
  rw[this]; rfl) (by decide) (by rw[a4]; decide) (by rw[a4]; decide) (by rw[a4]; exact .inr rfl)
 obtain⟨w3,c1,c2,c3,c4,c5,_⟩:=zDB b2 b3 (by rw[zEE]) (by rw[b4,a4]; rfl) (by rw[b4,a4]; decide) rfl rfl
 exact⟨w3,(a1.trans b1).trans c1,c2,c3,c4,c5⟩
theorem zIB(h:Ch (k+1) w w'):∃ w1,w.step=(true,w1)∧Ch k w1 w':=by
 cases h with
 | step h1 h2=>exact⟨_,h1,h2⟩
theorem zJB(h:Ch 0 w w'):w=w':=by cases h; rfl
theorem zsJ:(zma P .eql 9 true).f (str (ob zjq)) (.string ⟨#[97,110,32,105,109,97,103,101]⟩)=some (.bool true):=by kernel_rfl
set_option maxHeartbeats 8000000 in
theorem zKj(hO:St H Γ)(hk:∀ H',St H' Γ→K (.bool true) H'):wCall P zCb [] H K:=by
 apply zVk; unfold zti
 have hO1:St H (Γ++[]):=by rw[List.append_nil]; exact hO
 refine zIj (n:=2) (i:=1) (room:=4) (by omega) (by omega) (by omega) hO1 ?_
 clear hO hO1
 intro H b B hBn hR hO
 replace hO:WSt H Γ [(b,⟨bnC B,true⟩)] (w0 2 1) B:=hO
 refine zaa (zqB _) ?_
 refine zXa rfl ?_
 refine zbb hO (zrJ _) ?_
 clear hO
 intro qi H hO
 replace hO:=toS hO
 refine kpG hO (zwa (zwa (zwa (zua (k:=0) rfl)))) (by omega) ?_
 have hq:RdB (Γ++[(qi,⟨by8 zjq,true⟩)]) (Go.Ab.sl qi 0 8 3) zjq:=zHJ 0 rfl (.inr rfl) rfl
 replace hR:WrR (Γ++[(qi,⟨by8 zjq,true⟩)]) (w0 2 1) B:=hR.app
 have back:∀ {H Δ},St H ((Γ++[(qi,⟨by8 zjq,true⟩)])++Δ)→St H Γ:=fun h=>h.left.left
 generalize Γ++[(qi,(⟨by8 zjq,true⟩:Blk))]=Γ1 at *
 refine zbq (pr:=ziq) (ver:=1) (ck:=64) hO hq.app.app.app zCE (by decide) (by decide) (by decide) (by decide) (fun h=>absurd zNs h) ?_
 clear hO
 intro _ H cv hO hcv
 replace hO:St H ((((Γ1++[(b,⟨bnC B,true⟩)])++B.blk (w0 2 1))++MW B.L (w0 2 1).m)++zhb cv (hsC mA.cks)):=hO
 replace hcv:RdH (zhb cv (hsC mA.cks)) cv mA.cks:=hcv
 replace hO:=toS hO
 show opP (zxg 0 (.tuple [agg (mfC mA cv),int 0].toArray)) _
 refine zaa zXt ?_
 refine zaa zYt ?_
 rw[zcM]
 refine zHa hO ?_
 clear hO
 intro p3 H hO
 refine zra hO (_+0) (zua rfl) (by rfl) (zUa zTD.dl) (zml hcv.one) ?_
 clear hO
 intro H hO
 replace hO:=toF hO.set_r
 replace hO:WSt H (Γ1++zhb cv (hsC mA.cks)) ([(b,⟨bnC B,true⟩)]++[(p3,⟨mfC mA cv,true⟩)]) (w0 2 1) B:=hO
 have hcv2:RdH (Γ1++zhb cv (hsC mA.cks)) cv mA.cks:=hcv.app'
 have hq2:RdB (Γ1++zhb cv (hsC mA.cks)) (Go.Ab.sl qi 0 8 3) zjq:=hq.app
 replace hR:WrR (Γ1++zhb cv (hsC mA.cks)) (w0 2 1) B:=hR.app
 replace back:∀ {H Δ},St H ((Γ1++zhb cv (hsC mA.cks))++Δ)→St H Γ:=fun h=>back (Δ:=zhb cv (hsC mA.cks)) h.left
 generalize Γ1++zhb cv (hsC mA.cks)=S at *
 have hbn:∀ {S' w' B' N},((((S'++([(b,(⟨bnC B,true⟩:Blk))]++N))++Wl.blk B' w')++MW B'.L w'.m))[S'.length+0]?=some (b,⟨bnC B,true⟩):=zwa (zwa (zua rfl))
 refine zaa zda ?_
 refine zaa zca ?_
 refine zga hO _ hbn (v:=ptr B.A.r 0) rfl ?_
 refine zta hO (S.length+(1+0)) (zwa (zwa (zua (zua rfl)))) (zUa zTD.dl) (by omega) ?_
 obtain⟨xa,xn,xc,rfl⟩:=hcv2.shape
 refine zaa (bGo zTD.dl 4 _ _ _) ?_
 have hl0:(w0 2 1).q=[]:=rfl
 refine zWd (nt:=.go 4 mA) hR ⟨_,rfl,hcv2,zTD⟩ rfl hO (fun h=>by rw[hl0,hBn] at h; cases h) ?_
 clear hO
 intro _ H B1 hB1 hR1 hO
 refine zaa zda ?_
 refine zaa zca ?_
 refine zga hO _ hbn (v:=ptr B1.A.r 0) (by rw[← zgc hB1]; rfl) ?_
 refine zaa (zhI _ _ _) ?_
 refine zWd (nt:=.body 0 zjq) hR1 ⟨_,rfl,hq2,zCE⟩ rfl hO (fun h=>by rw[hB1.n,hBn] at h; cases h) ?_
 clear hO
 intro _ H B2 hB2 hR2 hO
 have hB2':=hB1.trans hB2
 refine zaa zda ?_
 refine zaa zca ?_
 refine zga hO _ hbn (v:=ptr B2.A.r 0) (by rw[← zgc hB2']; rfl) ?_
 refine zaa zFI ?_
 refine zWd (nt:=.fin) hR2 rfl rfl hO (fun h=>by rw[hB2'.n,hBn] at h; cases h) ?_
 clear hO
 intro _ H B3 hB3 hR3 hO
 have hB3':=hB2'.trans hB3
 obtain⟨wS,hwS⟩:∃ wS:Wr,wS={ w0 2 1 with q:=(((w0 2 1).q++[.go 4 mA])++[.body 0 zjq])++[.fin] }:=⟨_,rfl⟩
 replace hR3:WrR S wS B3:=by rw[hwS]; exact hR3
 replace hO:WSt H S ([(b,⟨bnC B,true⟩)]++[(p3,⟨mfC mA (.slice xa xn xc),true⟩)]) wS B3:=by rw[hwS]; exact hO
 have hz0:0≤wS.sd.sz:=by rw[hwS]; exact Int.le_refl 0
 have hsm0:wS.m.Sm 0:=by rw[hwS]; exact⟨Nat.le_refl 0,Nat.le_refl 0⟩
 obtain⟨wE,hch,hrd,hE1,hE2,hE3⟩:=zHB (w:=wS) (by rw[hwS]; rfl) (by
  rw[hwS]
  have h:=zGB (n:=2) (sl:=1) (by omega) (by omega) (.inr rfl)
  exact⟨h.r.qq _,h.er,h.sg,h.ss,h.nx,h.wr0,h.wear⟩)
 refine zgi (fun k l' H'=>∃ (y:Nat) (X:List (Nat × Blk)) (w':Wr) (B':Wl),y≤6∧k=6 - y∧l'=[.bool false,ptr b 0,int y]∧B.Same B'∧WrR (S++X) w' B'∧0≤w'.sd.sz∧w'.m.Sm y∧Ch (6 - y) w' wE∧WSt H' (S++X) ([(b,⟨bnC B,true⟩)]++[(p3,⟨mfC mA (.slice xa xn xc),true⟩)]) w' B') _ _ ?_ 6 _ _ ⟨0,[],wS,B3,by omega,rfl,rfl,hB3',by rw[List.append_nil]; exact hR3,hz0,hsm0,hch,by rw[List.append_nil]; exact hO⟩
 clear hO hch
 rintro k l' H ⟨y,X,w',B',hy,rfl,rfl,hB',hR',hz,hsm,hch,hO⟩
 unfold zXf
 try simp only[zia,zja]
 refine zaa zIa ?_
 have hc:∀ {B':Wl},B.Same B'→(bnC B)[0+3]?=some (ptr B'.c 0):=fun h=>by rw[← zgc h]; rfl
 refine zna (fun h=>?_) (fun h=>?_)
 ·rw[show 6 - y=(5 - y)+1 by omega] at hch
  obtain⟨w1,hs1,hch⟩:=zIB hch
  refine zaa zda ?_
  refine zaa zca ?_
  refine zga hO _ hbn (hc hB') ?_
  refine zMe hR' hO ?_
  rw[decide_eq_false (zFB hs1)]
  refine zXa rfl ?_
  refine zaa zda ?_
  refine zaa zca ?_
  refine zga hO _ hbn (hc hB') ?_
  refine zWb hR' hz hsm (by omega) hO ?_
  clear hO
  intro H B2 X2 g1 g2 g3 g4 hO
  rw[hs1] at g2 g3 g4 hO ⊢
  refine zaa zmc ?_
  refine zaa zVa ?_
  refine zXa rfl ?_
  refine zaa (v:=int ((y+1:Nat):Int)) (by rw[zYa (by omega) (by omega)]; rfl) ?_
  rw[List.append_assoc] at g2 hO
  exact⟨_,by omega,y+1,X++X2,w1,B2,by omega,rfl,rfl,hB'.trans g1,g2,g3,g4,by rw[show 6 - (y+1)=5 - y by omega]; exact hch,hO⟩
 ·have ey:y=6:=by omega
  subst ey
  have:=zJB hch
  subst this
  refine zKa rfl ?_
  try simp only[zia,zja]
  refine zaa zda ?_
  refine zaa zca ?_
  refine zga hO _ hbn (hc hB') ?_
  refine zMe hR' hO ?_
  rw[decide_eq_true hE2]
  refine zsc rfl ?_
  refine zaa zda ?_
  refine zaa zca ?_
  refine zga hO _ hbn (hc hB') ?_
  refine zWb hR' hz hsm (by omega) hO ?_
  clear hO
  intro H B2 X2 g1 g2 g3 g4 hO
  rw[zsm hE2] at g2 g3 g4 hO ⊢
  have hB2:=hB'.trans g1
  refine zaa zmc ?_
  refine zaa zwb ?_
  refine zsc rfl ?_
  refine zaa zda ?_
  refine zaa zca ?_
  refine zga hO _ hbn (hc hB2) ?_
  refine zqm g2 hO ?_
  rw[hE3]
  refine zaa zib ?_
  refine zaa zwb ?_
  refine zsc rfl ?_
  refine zaa zda ?_
  refine zaa zca ?_
  refine zga hO _ hbn (hc hB2) ?_
  refine zHj g2 hO ?_
  rw[hE1]
  refine zaa zib ?_
  refine zaa (zNb rfl) ?_
  refine zsc rfl ?_
  refine zaa zda ?_
  refine zaa zca ?_
  refine zga hO _ hbn (v:=ptr B2.L.pm 0) (by rw[← zgc hB2]; rfl) ?_
  refine zEj g2.m.ok hO ?_
  clear hO
  intro H vb cb hO hvb
  have hall:w'.m.all 1=zjq++List.replicate (64 * 2 - zjq.length) 255:=by
   rw[hrd.all]
   exact zhq (b:=zjq) (n:=2) (by decide)
  rw[hall] at hvb
  obtain⟨v1,e1,i1⟩:=zzo hvb.rd (n:=8) (by rw[List.length_append]; exact Nat.le_add_right 8 _)
  refine zaa e1 ?_
  have hr1:=(i1 _ hvb.rd).app' (Γ:=(((S++X)++X2)++([(b,⟨bnC B,true⟩)]++[(p3,⟨mfC mA (.slice xa xn xc),true⟩)]))++B2.blk w'++MW B2.L w'.m)
  have ht:(zjq++List.replicate (64 * 2 - zjq.length) 255).take 8=zjq:=List.take_left' (l₁:=zjq) rfl
  rw[ht] at hr1
  refine zCa (RdB.str hO hr1) ?_
  refine zaa zsJ ?_
  refine zaa zwb ?_
  refine hk H (back (Δ:=((X++X2)++([(b,⟨bnC B,true⟩)]++[(p3,⟨mfC mA (.slice xa xn xc),true⟩)]))++B2.blk w'++MW B2.L w'.m) ?_)
  have h5:=hO.left
  simp only[List.append_assoc] at h5 ⊢
  exact h5
end J
set_option maxRecDepth 100000
namespace J
open Go Go.Ab
variable{H:Heap}{Γ Γ1 Λ Δ S F X N:List (Nat × Blk)}{K:VH}{v cv:Value}{cs cs' el:List Value}{p q c k n:Nat}{e pos a gh:Int}{m:Mf}{L L':Mloc}{w w' w1:Wr}{B B':Wl}{b:List Int}{nt:Sn}{pr:List UInt8}
def zer:List Int:=List.replicate 130 0
theorem ziI:By zer:=fun x hx=>by have:x=0:=List.eq_of_mem_replicate hx; omega
def mZ:Mf:=mkF ziq 1 64 zer
theorem ztx:znb mZ:=zCu zDu (by decide) (by decide) (by decide) (by decide) (by decide) (by decide) (by decide) (by decide)
theorem zUD:mZ.Ok:=zpx (by decide) (by decide) (by decide) (by decide) (by decide)
theorem zjK:(zxa P 49).f []=some (agg (int 0::mfC m0 zBa)):=by kernel_rfl
theorem zKJ(hd:m.dg.length=32)(a:Option Addr)(k c:Nat):(zxa P 49).f [(1,agg (mfC m (.slice a k c)))]=some (agg (int 0::mfC m (.slice a k c))):=by
 obtain⟨pr,ver,sz,ck,dg,cks⟩:=m
 have hd:dg.length=32:=hd
 match dg,hd with
 | [a0,a1,a2,a3,a4,a5,a6,a7,a8,a9,a10,a11,a12,a13,a14,a15,a16,a17,a18,a19,a20,a21,a22,a23,a24,a25,a26,a27,a28,a29,a30,a31],_=>show _=_; kernel_rfl
theorem zjI:(zxa P 54).f []=some (agg [int 0,zBa]):=by kernel_rfl
def ztJ:List Sn:=[.again (-1),.body 0 [],.fin,.go 0 m0]
def zZB:List Value:=[.iface 65 (agg [int (-1)]),.iface 54 (agg [int 0,zBa]),.iface 56 (agg []),.iface 49 (agg (int 0::mfC m0 zBa))]
theorem zsG(H:Heap):(zoa P 50 4).f [(0,.iface 65 (agg [int (-1)])),(1,.iface 54 (agg [int 0,zBa])),(2,.iface 56 (agg [])),(3,.iface 49 (agg (int 0::mfC m0 zBa)))] H=some (Go.Ab.sl H.next 0 4 3,H.push zZB):=by kernel_rfl
theorem ztG:zRb P 22=⟨zrk 1 1 [.int .u8 0]⟩:=by kernel_rfl
theorem zkI:¬ znb m0:=fun h=>by
 obtain⟨_,h,_⟩:=h
 exact absurd h (by decide)
theorem zVD(h0:w.er=0)(h1:w.sg=0)(h2:w.ss=[])(h3:w.q=[nt])(hn:∀ gh m,nt=.go gh m→¬ znb m):∃ w1,w.step=(true,w1)∧w1.er=192∧w1.sg=0:=by
 rw[zJj h0 (.inl h1) h2 h3]
 have key:(({ w with q:=[] }:Wr).heed nt)={ w with q:=[],er:=192 }:=by
  unfold Wr.heed
  rw[if_pos h1]
  cases nt with
  | go gh m=>
   show ({ w with q:=[] }:Wr).begin m=_
   unfold Wr.begin
   rw[if_pos (hn gh m rfl)]
  | again a=>rfl
  | body a c=>rfl
  | fin=>rfl
 exact⟨_,rfl,by rw[key],by rw[key]; exact h1⟩
theorem zWD{w:Wr}{m:Mf}(h0:w.er=0)(h1:w.sg=0)(h2:w.ss=[])(h3:w.q=[.go gh m])(hr:znb m)(hz:m.sz > 64 * (w.size:Int)):∃ w1,w.step=(true,w1)∧w1.er=145∧w1.sg=0∧w1.m=w.m:=by
 rw[zJj h0 (.inl h1) h2 h3]
 have key:(({ w with q:=[] }:Wr).heed (.go gh m))={ w with q:=[],er:=145 }:=by
  unfold Wr.heed
  rw[if_pos h1]
  show ({ w with q:=[] }:Wr).begin m=_
  unfold Wr.begin
  rw[if_neg (by simp[hr]),if_pos (by exact hz)]
 exact⟨_,rfl,by rw[key],by rw[key]; exact h1,by rw[key]⟩
theorem zXD{size:Nat}(h:Own size v 0 cs):lenSl v H=some (int 0,H):=by
 rcases h with⟨rfl,_⟩|⟨p,rfl|rfl,_⟩ <;> rfl
theorem zlI:repl 130 [.int .u8 0]=by8 zer:=by
 rw[zPC]; unfold zer by8; rw[List.map_replicate]
theorem zkK:∀ y (h:y < 4),∃ v,zZB[y]?=some v∧NtR S (ztJ[y]'h) [v]∧oneCell v=true∧(∀ gh m,ztJ[y]'h=.go gh m→¬ znb m)
 | 0,_=>⟨_,rfl,rfl,rfl,fun _ _ h=>by cases h⟩
 | 1,_=>⟨_,rfl,⟨_,rfl,RdB.nil,fun _ hx=>by cases hx⟩,rfl,fun _ _ h=>by cases h⟩
 | 2,_=>⟨_,rfl,rfl,rfl,fun _ _ h=>by cases h⟩
 | 3,_=>⟨_,rfl,⟨_,rfl,RdH.nil,zOH⟩,rfl,fun _ _ h=>by
   have h:Sn.go 0 m0=Sn.go _ _:=h
   injection h with _ h2
   rw[← h2]; exact zkI⟩
set_option maxHeartbeats 8000000 in
theorem wnames_main(hO:St H Γ)(hK:∀ H,K (.bool true) H):wCall P zje [] H K:=by
 apply zUk; unfold zsi
 refine zKj hO ?_
 clear hO
 intro H hO
 refine zaa zmc ?_
 refine zXa rfl ?_
 rw[ztG]
 refine zuv (k:=.i64) (k':=.i64) (size:=1) (bytes:=1) (z:=[.int .u8 0]) (n:=130) hO (by omega) (by omega) ?_
 clear hO
 intro qz H hO
 rw[zlI] at hO
 refine zbq (pr:=ziq) (ver:=1) (ck:=64) hO (v:=Go.Ab.sl qz 0 130 3) (b:=zer) (zHJ 0 rfl (.inr rfl) (by simp[zer])) ziI (by decide) (by decide) (by decide) (by decide) (fun h=>absurd ztx h) ?_
 clear hO
 intro _ H cv hO hcv
 replace hO:St H ((Γ++[(qz,⟨by8 zer,true⟩)])++zhb cv (hsC mZ.cks)):=hO
 replace hcv:RdH (zhb cv (hsC mZ.cks)) cv mZ.cks:=hcv
 replace hcv:RdH ((Γ++[(qz,⟨by8 zer,true⟩)])++zhb cv (hsC mZ.cks)) cv mZ.cks:=hcv.app'
 generalize (Γ++[(qz,(⟨by8 zer,true⟩:Blk))])++zhb cv (hsC mZ.cks)=G at *
 show opP (zxg 0 (.tuple [agg (mfC mZ cv),int 0].toArray)) _
 refine zaa zXt ?_
 refine zaa zYt ?_
 rw[zcM]
 refine zHa hO ?_
 clear hO
 intro p1 H hO
 refine zra hO (_+0) (zua rfl) (by rfl) (zUa zUD.dl) (zml hcv.one) ?_
 clear hO
 intro H hO
 replace hO:St H (G++[(p1,⟨mfC mZ cv,true⟩)]):=hO.set_r
 refine zaa (zDE _) ?_
 refine zaa zjI ?_
 refine zaa zFI ?_
 refine zaa zjK ?_
 refine zbb hO (zsG _) ?_
 clear hO
 intro qn H hO
 refine zCa zzg ?_
 refine zfi (fun k l' H'=>∃ y:Nat,y≤4∧k=4 - y∧l'=[.bool false,ptr p1 0,Go.Ab.sl qn 0 4 3,int 4,int y]∧St H' ((G++[(p1,⟨mfC mZ cv,true⟩)])++[(qn,⟨zZB,true⟩)])) _ _ ?_ 4 _ _ ⟨0,by omega,rfl,rfl,hO⟩
 clear hO
 rintro k l' H ⟨y,hy,rfl,rfl,hO⟩
 unfold zVf
 try simp only[zia,zja]
 refine zaa zIa ?_
 have hO1:=hO
 rw[← List.append_nil ((G++[(p1,(⟨mfC mZ cv,true⟩:Blk))])++[(qn,(⟨zZB,true⟩:Blk))])] at hO1
 refine zna (fun h=>?_) (fun h=>?_)
 ·have hy4:y < 4:=by omega
  obtain⟨v,hv,hnt,hv1,hbad⟩:=zkK (S:=(G++[(p1,⟨mfC mZ cv,true⟩)])++[(qn,⟨zZB,true⟩)]) y hy4
  refine zaa (zfb (by omega) (by omega)) ?_
  refine zga hO ((G++[(p1,(⟨mfC mZ cv,true⟩:Blk))]).length+0) (zua rfl) (show zZB[0+((y:Nat):Int).toNat * 1]?=some v by rw[Int.toNat_natCast,Nat.mul_one,Nat.zero_add]; exact hv) ?_
  refine zIj (n:=2) (i:=0) (room:=4) (by omega) (by omega) (by omega) hO1 ?_
  clear hO hO1
  generalize hS:(G++[(p1,(⟨mfC mZ cv,true⟩:Blk))])++[(qn,(⟨zZB,true⟩:Blk))]=S at *
  intro H b B hBn hR hO
  replace hO:WSt H S [(b,⟨bnC B,true⟩)] (w0 2 0) B:=hO
  have hbn:∀ {S' w' B'},((((S'++[(b,(⟨bnC B,true⟩:Blk))])++Wl.blk B' w')++MW B'.L w'.m))[S'.length+0]?=some (b,⟨bnC B,true⟩):=zwa (zwa (zua rfl))
  have hc:∀ {B':Wl},B.Same B'→(bnC B)[0+3]?=some (ptr B'.c 0):=fun h=>by rw[← zgc h]; rfl
  refine zaa zda ?_
  refine zaa zca ?_
  refine zga hO _ hbn (v:=ptr B.A.r 0) rfl ?_
  have hl0:(w0 2 0).q=[]:=rfl
  refine zWd hR hnt hv1 hO (fun h=>by rw[hl0,hBn] at h; cases h) ?_
  clear hO
  intro _ H B1 hB1 hR1 hO
  obtain⟨w2,hs,he,hsg⟩:=zVD (w:={ w0 2 0 with q:=(w0 2 0).q++[ztJ[y]'hy4] }) rfl rfl rfl rfl hbad
  refine zaa zda ?_
  refine zaa zca ?_
  refine zga hO _ hbn (hc hB1) ?_
  refine zHj hR1 hO ?_
  refine zaa (show _=some (Value.bool false) from zGb) ?_
  refine zXa rfl ?_
  refine zaa zda ?_
  refine zaa zca ?_
  refine zga hO _ hbn (hc hB1) ?_
  refine zWb (N:=0) hR1 (Int.le_refl 0) ⟨Nat.le_refl 0,Nat.le_refl 0⟩ (by omega) hO ?_
  clear hO
  intro H B2 X2 g1 g2 g3 g4 hO
  rw[hs] at g2 g3 g4 hO ⊢
  have hB2:=hB1.trans g1
  refine zaa zmc ?_
  refine zaa zVa ?_
  refine zXa rfl ?_
  refine zaa zda ?_
  refine zaa zca ?_
  refine zga hO _ hbn (hc hB2) ?_
  refine zWb g2 g3 g4 (by omega) hO ?_
  clear hO
  intro H B3 X3 k1 k2 k3 k4 hO
  rw[zBu (w:=w2) (by rw[he]; decide)] at k2 k3 k4 hO ⊢
  have hB3:=hB2.trans k1
  refine zaa zVa ?_
  refine zXa rfl ?_
  refine zaa zda ?_
  refine zaa zca ?_
  refine zga hO _ hbn (hc hB3) ?_
  refine zHj k2 hO ?_
  rw[he]
  refine zaa (show _=some (Value.bool false) from zGb) ?_
  refine zaa zVa ?_
  refine zXa rfl ?_
  refine zaa zda ?_
  refine zaa zca ?_
  refine zga hO _ hbn (hc hB3) ?_
  refine zMe k2 hO ?_
  rw[hsg]
  refine zaa zVa ?_
  refine zXa rfl ?_
  refine zaa (v:=int ((y+1:Nat):Int)) (by rw[zYa (by omega) (by omega)]; rfl) ?_
  exact⟨_,by omega,y+1,by omega,rfl,rfl,hO.left.left.left.left.left⟩
 ·refine zKa rfl ?_
  try simp only[zia,zja]
  refine zIj (n:=2) (i:=0) (room:=4) (by omega) (by omega) (by omega) hO1 ?_
  clear hO hO1
  have hcv2:RdH ((G++[(p1,(⟨mfC mZ cv,true⟩:Blk))])++[(qn,(⟨zZB,true⟩:Blk))]) cv mZ.cks:=hcv.app.app
  have hp1:((G++[(p1,(⟨mfC mZ cv,true⟩:Blk))])++[(qn,(⟨zZB,true⟩:Blk))])[G.length+0]?=some (p1,⟨mfC mZ cv,true⟩):=zwa (zua rfl)
  generalize hS:(G++[(p1,(⟨mfC mZ cv,true⟩:Blk))])++[(qn,(⟨zZB,true⟩:Blk))]=S at *
  intro H b B hBn hR hO
  replace hO:WSt H S [(b,⟨bnC B,true⟩)] (w0 2 0) B:=hO
  have hbn:∀ {S' w' B'},((((S'++[(b,(⟨bnC B,true⟩:Blk))])++Wl.blk B' w')++MW B'.L w'.m))[S'.length+0]?=some (b,⟨bnC B,true⟩):=zwa (zwa (zua rfl))
  have hc:∀ {B':Wl},B.Same B'→(bnC B)[0+3]?=some (ptr B'.c 0):=fun h=>by rw[← zgc h]; rfl
  refine zaa zda ?_
  refine zaa zca ?_
  refine zga hO _ hbn (v:=ptr B.A.r 0) rfl ?_
  refine zta hO _ (zwa (zwa (zwa hp1))) (zUa zUD.dl) (by omega) ?_
  obtain⟨xa,xn,xc,rfl⟩:=hcv2.shape
  refine zaa (zKJ zUD.dl _ _ _) ?_
  have hl0:(w0 2 0).q=[]:=rfl
  refine zWd (nt:=.go 0 mZ) hR ⟨_,rfl,hcv2,zUD⟩ rfl hO (fun h=>by rw[hl0,hBn] at h; cases h) ?_
  clear hO
  intro _ H B1 hB1 hR1 hO
  have hsz:(w0 2 0).size=2:=(zGB (n:=2) (sl:=0) (by omega) (by omega) (.inl rfl)).r.size
  obtain⟨w2,hs,he,hsg,hm⟩:=zWD (w:={ w0 2 0 with q:=(w0 2 0).q++[.go 0 mZ] }) rfl rfl rfl rfl ztx (by
   show (130:Int) > 64 * (((w0 2 0).size:Nat):Int)
   rw[hsz]; omega)
  refine zaa zda ?_
  refine zaa zca ?_
  refine zga hO _ hbn (hc hB1) ?_
  refine zMe hR1 hO ?_
  refine zaa (show _=some (Value.bool true) from rfl) ?_
  refine zsc rfl ?_
  refine zaa zda ?_
  refine zaa zca ?_
  refine zga hO _ hbn (hc hB1) ?_
  refine zWb (N:=0) hR1 (Int.le_refl 0) ⟨Nat.le_refl 0,Nat.le_refl 0⟩ (by omega) hO ?_
  clear hO
  intro H B2 X2 g1 g2 g3 g4 hO
  rw[hs] at g2 g3 g4 hO ⊢
  have hB2:=hB1.trans g1
  refine zaa zwb ?_
  refine zsc rfl ?_
  refine zaa zda ?_
  refine zaa zca ?_
  refine zga hO _ hbn (hc hB2) ?_
  refine zHj g2 hO ?_
  rw[he]
  refine zaa (show _=some (Value.bool true) from zib) ?_
  refine zaa zwb ?_
  refine zsc rfl ?_
  refine zaa zda ?_
  refine zaa zca ?_
  refine zga hO _ hbn (hc hB2) ?_
  refine zWb g2 g3 g4 (by omega) hO ?_
  clear hO
  intro H B3 X3 k1 k2 k3 k4 hO
  rw[zBu (w:=w2) (by rw[he]; decide)] at k2 k3 k4 hO ⊢
  have hB3:=hB2.trans k1
  refine zaa zmc ?_
  refine zaa zwb ?_
  refine zsc rfl ?_
  refine zaa zda ?_
  refine zaa zca ?_
  refine zga hO _ hbn (v:=ptr B3.L.pm 0) (by rw[← zgc hB3]; rfl) ?_
  refine zfu hO k2.own ?_
  clear hO
  intro H hO _
  have ho:=k2.own.o
  rw[hm] at ho
  refine zCa (zXD ho) ?_
  refine zaa zib ?_
  refine zaa zwb ?_
  exact hK H
end J
set_option maxRecDepth 100000
namespace J
open Go Go.Ab
variable{H:Heap}{Γ Γ1 Λ Δ S F X N:List (Nat × Blk)}{K:VH}{v cv bv:Value}{cs cs' el:List Value}{es:List (List Value)}{p q c k n size i:Nat}{e pos gh:Int}{w w' w1:Wr}{B B':Wl}{b:List Int}{nt:Sn}
structure AcW where
 k:Int
 n:Int
 tk:Int
 ta:Int
 th:Int
 m:Mf
 bs:List Int
def acC(a:AcW)(cv bv:Value):List Value:=int a.k::int a.n::int a.tk::int a.ta::int a.th::(mfC a.m cv++[bv])
structure Mf.Wk (m:Mf):Prop where
 dl:m.dg.length=32
 db:By m.dg
 cl:∀ x ∈ m.cks,x.length=32
 cb:∀ x ∈ m.cks,By x
 ver:m.ver < 18446744073709551616
 sz:-9223372036854775808≤m.sz∧m.sz≤9223372036854775807
 ck:-9223372036854775808≤m.ck∧m.ck≤9223372036854775807
def AcR(S:List (Nat × Blk))(a:AcW)(el:List Value):Prop:=∃ cv bv,el=acC a cv bv∧RdH S cv a.m.cks∧a.m.Wk∧RdB S bv a.bs∧By a.bs
theorem AcR.app{a:AcW}(h:AcR S a el):AcR (S++X) a el:=by
 obtain⟨cv,bv,h1,h2,h3,h4,h5⟩:=h
 exact⟨cv,bv,h1,h2.app,h3,h4.app,h5⟩
theorem zkq{a:AcW}(h:a.m.dg.length=32):(acC a cv bv).length=43:=by simp[acC,zUa h]
def RdT(size:Nat)(Γ:List (Nat × Blk))(v:Value)(n:Nat)(cs:List Value):Prop:=
 (v=zBa∧n=0∧cs=[])∨∃ (p c j:Nat) (w:Bool),v=sl p 0 n c∧Γ[j]?=some (p,(⟨cs,w⟩:Blk))∧cs.length=n * size
theorem RdT.app(h:RdT size Γ v n cs):RdT size (Γ++Δ) v n cs:=by
 rcases h with h|⟨p,c,j,w,h1,h2,h3⟩
 ·exact .inl h
 ·exact .inr ⟨p,c,j,w,h1,zwa h2,h3⟩
theorem Al.get{α:Type}{R:α→List Value→Prop}{size:Nat}{l:List α}(h:Al R l es)(hp:∀ a el,R a el→el.length=size):∀ i (hi:i < l.length),∃ el,R l[i] el∧(es.flatten.drop (i * size)).take size=el:=by
 induction h with
 | nil=>intro i hi; cases hi
 | @cons a b l m h1 h2 ih=>
  intro i hi
  cases i with
  | zero=>exact⟨b,h1,by simp[List.take_left' (hp _ _ h1)]⟩
  | succ i=>
   obtain⟨el,g1,g2⟩:=ih i (by simpa using hi)
   refine⟨el,g1,?_⟩
   rw[List.flatten_cons,show (i+1) * size=b.length+i * size by rw[hp _ _ h1,Nat.succ_mul]; omega,← List.drop_drop,List.drop_left]
   exact g2
theorem RdT.lenSl{size:Nat}(h:RdT size Γ v n cs):Go.Ab.lenSl v H=some (int n,H):=by
 rcases h with⟨rfl,rfl,_⟩|⟨p,c,j,w,rfl,_⟩ <;> rfl
def RdAc(S:List (Nat × Blk))(v:Value)(acts:List AcW):Prop:=∃ es,RdT 43 S v acts.length es.flatten∧Al (AcR S) acts es
theorem RdAc.app{acts:List AcW}(h:RdAc S v acts):RdAc (S++X) v acts:=by
 obtain⟨es,h1,h2⟩:=h
 exact⟨es,h1.app,h2.imp fun _ _=>AcR.app⟩
theorem RdAc.lenSl{acts:List AcW}(h:RdAc S v acts):Go.Ab.lenSl v H=some (int acts.length,H):=by
 obtain⟨es,h1,_⟩:=h
 exact h1.lenSl
theorem RdAc.get{acts:List AcW}(h:RdAc S v acts)(hi:i < acts.length):∃ (p c j:Nat) (w:Bool) (cs:List Value) (cv bv:Value),v=Go.Ab.sl p 0 acts.length c∧S[j]?=some (p,(⟨cs,w⟩:Blk))∧(cs.drop (0+i * 43)).take 43=acC acts[i] cv bv∧RdH S cv acts[i].m.cks∧acts[i].m.Wk∧RdB S bv acts[i].bs∧By acts[i].bs:=by
 obtain⟨es,h1,h2⟩:=h
 obtain⟨el,⟨cv,bv,rfl,g2,g3,g4,g5⟩,g6⟩:=h2.get (size:=43) (fun a el h=>by obtain⟨cv,bv,rfl,_,h,_⟩:=h; exact zkq h.dl) i hi
 rcases h1 with⟨_,h0,_⟩|⟨p,c,j,w,rfl,hj,hl⟩
 ·omega
 ·exact⟨p,c,j,w,es.flatten,cv,bv,rfl,hj,by rw[Nat.zero_add]; exact g6,g2,g3,g4,g5⟩
theorem zmI{a:AcW}(h:a.m.dg.length=32):(acC a cv bv)[0+2+3+36]?=some cv:=by
 show (mfC a.m cv++[bv])[36]?=_
 rw[List.getElem?_append_left (by rw[zUa h]; omega)]
 exact zMn h
theorem znI{a:AcW}(h:a.m.dg.length=32):(acC a cv bv)[0+2+40]?=some bv:=by
 show (mfC a.m cv++[bv])[37]?=_
 rw[List.getElem?_append_right (by rw[zUa h]; omega),zUa h]; rfl
def zOs(a:AcW):Prop:=(a.k=1∧(a.tk < 1∨a.tk > 4))∨a.m.cks.length > 100∨a.m.pr.length > 200∨a.bs.length > 1100
theorem zoI:zc P 75=acC ⟨0,0,0,0,0,m0,[]⟩ zBa zBa:=by kernel_rfl
theorem zKB{a:AcW}(hc:oneCell cv=true)(hb:oneCell bv=true):(acC a cv bv).all oneCell=true:=by
 show (true && (true && (true && (true && (true && (mfC a.m cv++[bv]).all oneCell)))))=true
 rw[List.all_append,zml hc]
 simp[hb]
theorem zux{xs:List Int}(h:RdB S v xs):oneCell v=true:=by obtain⟨a,n,c,rfl⟩:=h.shape; rfl
set_option maxHeartbeats 8000000 in
theorem zHy{ss wr sl room:Int}{acts:List AcW}(hA:RdAc Γ v acts)(hO:St H Γ)(hyes:∀ H',St H' Γ→K (.bool true) H')
  (hno:1≤ss→ss≤20→0≤sl→sl≤1→acts.length≤90→(∀ a ∈ acts,¬ zOs a)→∀ H',St H' Γ→K (.bool false) H'):wCall P zAf [agg [int ss,int wr,int sl,int room],v] H K:=by
 apply zsq; unfold zwp
 rw[zfd]
 refine nw hO.z ?_
 clear hO
 intro p2 H hO
 replace hO:St H (Γ++[(p2,⟨[int ss,int wr,int sl,int room],true⟩)]):=hO
 refine zva (fun l' H'=>l'=[v,.bool false]∧1≤ss∧ss≤20∧0≤sl∧sl≤1∧acts.length≤90∧St H' (Γ++[(p2,⟨[int ss,int wr,int sl,int room],true⟩)])) ?_ ?_
 ·have hy:=hyes H hO.left
  repeat (first|refine oi ?_|refine ow ?_|refine wy ?_|refine wn ?_|refine wt ?_|refine wf' ?_|refine cy ?_|refine cn ?_)
  refine ld hO 0 rfl (v:=int ss) rfl ?_
  by_cases h1:ss < 1
  ·repeat (first|refine oi ?_|refine ow ?_|refine wy ?_|refine wn ?_|refine wt ?_|refine wf' ?_|refine cy ?_|refine cn ?_)
   exact hy
  repeat (first|refine oi ?_|refine ow ?_|refine wy ?_|refine wn ?_|refine wt ?_|refine wf' ?_|refine cy ?_|refine cn ?_)
  refine ld hO 0 rfl (v:=int ss) rfl ?_
  by_cases h2:ss > 20
  ·repeat (first|refine oi ?_|refine ow ?_|refine wy ?_|refine wn ?_|refine wt ?_|refine wf' ?_|refine cy ?_|refine cn ?_)
   exact hy
  repeat (first|refine oi ?_|refine ow ?_|refine wy ?_|refine wn ?_|refine wt ?_|refine wf' ?_|refine cy ?_|refine cn ?_)
  refine ld hO 0 rfl (v:=int sl) rfl ?_
  by_cases h3:sl < 0
  ·repeat (first|refine oi ?_|refine ow ?_|refine wy ?_|refine wn ?_|refine wt ?_|refine wf' ?_|refine cy ?_|refine cn ?_)
   exact hy
  repeat (first|refine oi ?_|refine ow ?_|refine wy ?_|refine wn ?_|refine wt ?_|refine wf' ?_|refine cy ?_|refine cn ?_)
  refine ld hO 0 rfl (v:=int sl) rfl ?_
  by_cases h4:sl > 1
  ·repeat (first|refine oi ?_|refine ow ?_|refine wy ?_|refine wn ?_|refine wt ?_|refine wf' ?_|refine cy ?_|refine cn ?_)
   exact hy
  repeat (first|refine oi ?_|refine ow ?_|refine wy ?_|refine wn ?_|refine wt ?_|refine wf' ?_|refine cy ?_|refine cn ?_)
  refine zCa hA.lenSl ?_
  by_cases h5:(acts.length:Int) > 90
  ·repeat (first|refine oi ?_|refine ow ?_|refine wy ?_|refine wn ?_|refine wt ?_|refine wf' ?_|refine cy ?_|refine cn ?_)
   exact hy
  repeat (first|refine oi ?_|refine ow ?_|refine wy ?_|refine wn ?_|refine wt ?_|refine wf' ?_|refine cy ?_|refine cn ?_)
  exact⟨rfl,by omega,by omega,by omega,by omega,by omega,hO⟩
 clear hO
 rintro l' H ⟨rfl,g1,g2,g3,g4,g5,hO⟩
 try simp only[zia,zja]
 refine zCa hA.lenSl ?_
 refine zVl (fun k l' H'=>∃ y:Nat,y≤acts.length∧k=acts.length - y∧l'=[.bool false,v,int acts.length,int y]∧(∀ i (h:i < acts.length),i < y→¬ zOs acts[i])∧St H' Γ) _ _ ?_ acts.length _ _ ⟨0,by omega,rfl,rfl,fun i _ h=>by omega,hO.left⟩
 clear hO
 rintro k l' H ⟨y,hy,rfl,rfl,hgood,hO⟩
 unfold zzk
 try simp only[zia,zja]
 refine zaa zIa ?_
 refine zna (fun h=>?_) (fun h=>?_)
 ·have hyl:y < acts.length:=by omega
  obtain⟨pa,ca,ja,wa,csa,cv,bv,rfl,hja,hcs,hcv,hwk,hbv,hby⟩:=hA.get hyl
  refine zaa (zfb (by omega) (by omega)) ?_
  refine zMa hO ja hja (by rw[Int.toNat_natCast]; exact hcs) (zkq hwk.dl) (by omega) ?_
  rw[zoI]
  refine nw hO.z ?_
  clear hO
  intro p6 H hO
  replace hO:St H (Γ++[(p6,⟨acC ⟨0,0,0,0,0,m0,[]⟩ zBa zBa,true⟩)]):=hO
  refine zra hO (Γ.length+0) (zua rfl) (by rfl) (zkq hwk.dl) (zKB hcv.one (zux hbv)) ?_
  clear hO
  intro H hO
  replace hO:St H (Γ++[(p6,⟨acC acts[y] cv bv,true⟩)]):=hO.set_r
  have hbad:zOs acts[y]→∀ H',St H' Γ→K (.bool true) H':=fun _=>hyes
  have hnext:¬ zOs acts[y]→∃ k',k' < acts.length - y∧∃ y':Nat,y'≤acts.length∧k'=acts.length - y'∧[Value.bool false,Go.Ab.sl pa 0 acts.length ca,int acts.length,int ((y:Int)+1)]=[.bool false,Go.Ab.sl pa 0 acts.length ca,int acts.length,int y']∧(∀ i (h:i < acts.length),i < y'→¬ zOs acts[i])∧St H Γ:=fun hb=>
   ⟨_,by omega,y+1,by omega,rfl,rfl,fun i hi hy'=>by
    by_cases e:i=y
    ·subst e; exact hb
    ·exact hgood i hi (by omega),hO.left⟩
  have hfin:=hyes H hO.left
  generalize acts[y]=ac at *
  have rest:∀ (t:Value),(ac.k=1→t=.bool false)→True:=fun _ _=>trivial
  repeat (first|refine oi ?_|refine ow ?_|refine wy ?_|refine wn ?_|refine wt ?_|refine wf' ?_|refine cy ?_|refine cn ?_)
  refine ld hO 0 rfl (v:=int ac.k) rfl ?_
  by_cases hk1:ac.k=1
  ·repeat (first|refine oi ?_|refine ow ?_|refine wy ?_|refine wn ?_|refine wt ?_|refine wf' ?_|refine cy ?_|refine cn ?_)
   refine ld hO 0 rfl (v:=int ac.tk) rfl ?_
   by_cases h1:ac.tk < 1
   ·repeat (first|refine oi ?_|refine ow ?_|refine wy ?_|refine wn ?_|refine wt ?_|refine wf' ?_|refine cy ?_|refine cn ?_)
    exact hfin
   repeat (first|refine oi ?_|refine ow ?_|refine wy ?_|refine wn ?_|refine wt ?_|refine wf' ?_|refine cy ?_|refine cn ?_)
   refine ld hO 0 rfl (v:=int ac.tk) rfl ?_
   by_cases h2:ac.tk > 4
   ·repeat (first|refine oi ?_|refine ow ?_|refine wy ?_|refine wn ?_|refine wt ?_|refine wf' ?_|refine cy ?_|refine cn ?_)
    exact hfin
   repeat (first|refine oi ?_|refine ow ?_|refine wy ?_|refine wn ?_|refine wt ?_|refine wf' ?_|refine cy ?_|refine cn ?_)
   refine ld hO 0 rfl (zmI hwk.dl) ?_
   refine zCa hcv.lenSl ?_
   by_cases h3:(ac.m.cks.length:Int) > 100
   ·repeat (first|refine oi ?_|refine ow ?_|refine wy ?_|refine wn ?_|refine wt ?_|refine wf' ?_|refine cy ?_|refine cn ?_)
    exact hfin
   repeat (first|refine oi ?_|refine ow ?_|refine wy ?_|refine wn ?_|refine wt ?_|refine wf' ?_|refine cy ?_|refine cn ?_)
   refine ld hO 0 rfl (v:=str ac.m.pr) rfl ?_
   refine zCa (zGs) ?_
   by_cases h4:(ac.m.pr.length:Int) > 200
   ·repeat (first|refine oi ?_|refine ow ?_|refine wy ?_|refine wn ?_|refine wt ?_|refine wf' ?_|refine cy ?_|refine cn ?_)
    exact hfin
   repeat (first|refine oi ?_|refine ow ?_|refine wy ?_|refine wn ?_|refine wt ?_|refine wf' ?_|refine cy ?_|refine cn ?_)
   refine ld hO 0 rfl (znI hwk.dl) ?_
   refine zCa hbv.lenSl ?_
   by_cases h5:(ac.bs.length:Int) > 1100
   ·repeat (first|refine oi ?_|refine ow ?_|refine wy ?_|refine wn ?_|refine wt ?_|refine wf' ?_|refine cy ?_|refine cn ?_)
    exact hfin
   repeat (first|refine oi ?_|refine ow ?_|refine wy ?_|refine wn ?_|refine wt ?_|refine wf' ?_|refine cy ?_|refine cn ?_)
   exact hnext (by unfold zOs; omega)
  ·repeat (first|refine oi ?_|refine ow ?_|refine wy ?_|refine wn ?_|refine wt ?_|refine wf' ?_|refine cy ?_|refine cn ?_)
   refine ld hO 0 rfl (zmI hwk.dl) ?_
   refine zCa hcv.lenSl ?_
   by_cases h3:(ac.m.cks.length:Int) > 100
   ·repeat (first|refine oi ?_|refine ow ?_|refine wy ?_|refine wn ?_|refine wt ?_|refine wf' ?_|refine cy ?_|refine cn ?_)
    exact hfin
   repeat (first|refine oi ?_|refine ow ?_|refine wy ?_|refine wn ?_|refine wt ?_|refine wf' ?_|refine cy ?_|refine cn ?_)
   refine ld hO 0 rfl (v:=str ac.m.pr) rfl ?_
   refine zCa (zGs) ?_
   by_cases h4:(ac.m.pr.length:Int) > 200
   ·repeat (first|refine oi ?_|refine ow ?_|refine wy ?_|refine wn ?_|refine wt ?_|refine wf' ?_|refine cy ?_|refine cn ?_)
    exact hfin
   repeat (first|refine oi ?_|refine ow ?_|refine wy ?_|refine wn ?_|refine wt ?_|refine wf' ?_|refine cy ?_|refine cn ?_)
   refine ld hO 0 rfl (znI hwk.dl) ?_
   refine zCa hbv.lenSl ?_
   by_cases h5:(ac.bs.length:Int) > 1100
   ·repeat (first|refine oi ?_|refine ow ?_|refine wy ?_|refine wn ?_|refine wt ?_|refine wf' ?_|refine cy ?_|refine cn ?_)
    exact hfin
   repeat (first|refine oi ?_|refine ow ?_|refine wy ?_|refine wn ?_|refine wt ?_|refine wf' ?_|refine cy ?_|refine cn ?_)
   exact hnext (by unfold zOs; omega)
 ·have ey:y=acts.length:=by omega
  subst ey
  refine zKa rfl ?_
  try simp only[zia,zja]
  refine hno g1 g2 g3 g4 g5 (fun a ha=>?_) H hO
  obtain⟨i,hi,rfl⟩:=List.mem_iff_getElem.1 ha
  exact hgood i hi hi
end J
set_option maxRecDepth 100000
namespace J
open Go Go.Ab
variable{H:Heap}{Γ Γ1 Λ Δ S F X N:List (Nat × Blk)}{K:VH}{v cv bv:Value}{cs cs' el:List Value}{p q c k n:Nat}{e pos gh sl:Int}{w w' w1:Wr}{B B':Wl}{b:List Int}{nt:Sn}{m:Mp}{s:Ls}
def zpI(a:AcW):Sn:=if a.tk=1 then .again a.ta else if a.tk=2 then .go a.th a.m else if a.tk=3 then .body a.ta a.bs else .fin
def ntC(a:AcW)(cv bv:Value):List Value:=int a.tk::int a.ta::int a.th::(mfC a.m cv++[bv])
theorem zuJ{a:AcW}(h:a.m.dg.length=32):((ntC a cv bv).drop (0+3)).take 37=mfC a.m cv:=by
 show (mfC a.m cv++[bv]).take 37=_
 exact List.take_left' (zUa h)
theorem zqI{a:AcW}(h:a.m.dg.length=32):(ntC a cv bv)[0+40]?=some bv:=by
 show (mfC a.m cv++[bv])[37]?=_
 rw[List.getElem?_append_right (by rw[zUa h]; omega),zUa h]; rfl
theorem zuG{a:AcW}(h:a.m.dg.length=32):((acC a cv bv).drop (0+2)).take 41=ntC a cv bv:=by
 show (ntC a cv bv).take 41=_
 exact List.take_of_length_le (by simp[ntC,zUa h])
theorem Mf.Wk.ok{m:Mf}(h:m.Wk)(h1:m.cks.length≤10000)(h2:m.pr.length≤10000):m.Ok:=⟨h.dl,h.db,h.cl,h.cb,h.ver,h.sz,h.ck,h1,h2⟩
theorem zLB{a:AcW}(hO:St H Γ)(hc:RdH S cv a.m.cks)(ok:a.m.Ok)(hb:RdB S bv a.bs)(hby:By a.bs)(hk:∀ H' v,NtR S (zpI a) [v]→oneCell v=true→St H' Γ→K v H'):wCall P zhj [agg (ntC a cv bv)] H K:=by
 apply zss; unfold zar
 rw[zfd]
 refine nw hO.z ?_
 clear hO
 intro p1 H hO
 replace hO:St H (Γ++[(p1,⟨ntC a cv bv,true⟩)]):=hO
 unfold zpI at hk
 repeat (first|refine oi ?_|refine ow ?_|refine wy ?_|refine wn ?_|refine wt ?_|refine wf' ?_|refine cy ?_|refine cn ?_)
 refine ld hO 0 rfl (v:=int a.tk) rfl ?_
 refine zaa zib ?_
 refine zna (fun h1=>?_) (fun h1=>?_)
 ·rw[if_pos h1] at hk
  repeat (first|refine oi ?_|refine ow ?_|refine wy ?_|refine wn ?_|refine wt ?_|refine wf' ?_|refine cy ?_|refine cn ?_)
  refine ld hO 0 rfl (v:=int a.ta) rfl ?_
  refine zaa (zDE _) ?_
  exact hk H _ rfl rfl hO.left
 rw[if_neg h1] at hk
 refine zaa zib ?_
 refine zna (fun h2=>?_) (fun h2=>?_)
 ·rw[if_pos h2] at hk
  repeat (first|refine oi ?_|refine ow ?_|refine wy ?_|refine wn ?_|refine wt ?_|refine wf' ?_|refine cy ?_|refine cn ?_)
  refine ld hO 0 rfl (v:=int a.th) rfl ?_
  repeat (first|refine oi ?_|refine ow ?_|refine wy ?_|refine wn ?_|refine wt ?_|refine wf' ?_|refine cy ?_|refine cn ?_)
  refine zMa hO (Γ.length+0) (zua rfl) (zuJ ok.dl) (zUa ok.dl) (by omega) ?_
  obtain⟨xa,xn,xc,rfl⟩:=hc.shape
  refine zaa (bGo ok.dl _ _ _ _) ?_
  exact hk H _ ⟨_,rfl,hc,ok⟩ rfl hO.left
 rw[if_neg h2] at hk
 refine zaa zib ?_
 refine zna (fun h3=>?_) (fun h3=>?_)
 ·rw[if_pos h3] at hk
  repeat (first|refine oi ?_|refine ow ?_|refine wy ?_|refine wn ?_|refine wt ?_|refine wf' ?_|refine cy ?_|refine cn ?_)
  refine ld hO 0 rfl (v:=int a.ta) rfl ?_
  repeat (first|refine oi ?_|refine ow ?_|refine wy ?_|refine wn ?_|refine wt ?_|refine wf' ?_|refine cy ?_|refine cn ?_)
  refine ld hO 0 rfl (zqI ok.dl) ?_
  obtain⟨xa,xn,xc,rfl⟩:=hb.shape
  refine zaa (zgI _ _ _ _) ?_
  exact hk H _ ⟨_,rfl,hb,hby⟩ rfl hO.left
 rw[if_neg h3] at hk
 refine zaa zFI ?_
 exact hk H _ rfl rfl hO.left
theorem zlq:(w.heed nt).s=w.s∧(w.heed nt).token=w.token∧(w.heed nt).slot=w.slot∧(w.heed nt).m=w.m∧(w.sg≠4→(w.heed nt).sg≠4):=by
 unfold Wr.heed
 by_cases h0:w.sg=0
 ·rw[if_pos h0]
  cases nt with
  | go gh m=>
   show (w.begin m).s=_∧(w.begin m).token=_∧(w.begin m).slot=_∧(w.begin m).m=_∧(w.sg≠4→(w.begin m).sg≠4)
   unfold Wr.begin
   split
   ·exact⟨rfl,rfl,rfl,rfl,id⟩
   split
   ·exact⟨rfl,rfl,rfl,rfl,id⟩
   ·exact⟨rfl,rfl,rfl,rfl,fun _ h=>by cases h⟩
  | again a=>exact⟨rfl,rfl,rfl,rfl,id⟩
  | body a c=>exact⟨rfl,rfl,rfl,rfl,id⟩
  | fin=>exact⟨rfl,rfl,rfl,rfl,id⟩
 ·rw[if_neg h0]
  cases nt with
  | go gh m=>exact⟨rfl,rfl,rfl,rfl,id⟩
  | again a=>exact⟨rfl,rfl,rfl,rfl,id⟩
  | body a c=>
   show (w.body a c).s=_∧(w.body a c).token=_∧(w.body a c).slot=_∧(w.body a c).m=_∧(w.sg≠4→(w.body a c).sg≠4)
   unfold Wr.body
   split <;> exact⟨rfl,rfl,rfl,rfl,id⟩
  | fin=>
   by_cases h1:w.nx < w.sd.cks.length
   ·simp only[if_pos h1]; exact⟨trivial,trivial,trivial,trivial,id⟩
   ·simp only[if_neg h1]; exact⟨trivial,trivial,trivial,trivial,fun _ h=>by cases h⟩
theorem zmq:w.step.2.s=w.s∧w.step.2.token=w.token∧w.step.2.slot=w.slot:=by
 unfold Wr.step
 split
 ·exact⟨rfl,rfl,rfl⟩
 split
 ·show w.wipe.s=_∧w.wipe.token=_∧w.wipe.slot=_
  unfold Wr.wipe
  split <;> exact⟨rfl,rfl,rfl⟩
 split
 ·show w.close.s=_∧w.close.token=_∧w.close.slot=_
  unfold Wr.close
  split
  ·exact⟨rfl,rfl,rfl⟩
  split <;> exact⟨rfl,rfl,rfl⟩
 split
 ·rename_i x xs _
  show (w.fill x xs).s=_∧(w.fill x xs).token=_∧(w.fill x xs).slot=_
  unfold Wr.fill
  split <;> exact⟨rfl,rfl,rfl⟩
 ·split
  ·exact⟨rfl,rfl,rfl⟩
  ·rename_i nt q _
   obtain⟨h1,h2,h3,_⟩:=zlq (w:={ w with q:=q }) (nt:=nt)
   exact⟨h1,h2,h3⟩
theorem zfw{token:Nat}{f:Mp→Mp × Int}(h:¬ s.holds token):s.as m token f=(m,161):=by
 unfold Ls.as; rw[if_neg h]
theorem zEu(h:¬ w.s.holds w.token):w.step.2.m=w.m∧(w.step.2.sg=4↔w.sg=4):=by
 by_cases h4:w.sg=4
 ·rw[zsm h4]; exact⟨rfl,Iff.rfl⟩
 unfold Wr.step
 split
 ·exact⟨rfl,Iff.rfl⟩
 split
 ·rename_i h1
  show w.wipe.m=w.m∧(w.wipe.sg=4↔w.sg=4)
  unfold Wr.wipe
  split
  ·unfold Wr.erases Wr.put
   rw[zfw h]
   exact⟨rfl,Iff.rfl⟩
  ·exact⟨rfl,⟨fun h=>(by cases h),fun h=>absurd h h4⟩⟩
 split
 ·show w.close.m=w.m∧(w.close.sg=4↔w.sg=4)
  have e:w.syncs={ w with er:=161 }:=by
   unfold Wr.syncs Wr.put
   rw[zfw h]
  unfold Wr.close
  rw[e,if_pos (by show (161:Int)≠0; decide)]
  exact⟨rfl,Iff.rfl⟩
 split
 ·rename_i x xs _
  show (w.fill x xs).m=w.m∧((w.fill x xs).sg=4↔w.sg=4)
  have e:w.fills x={ w with er:=161 }:=by
   unfold Wr.fills Wr.put
   rw[zfw h]
  unfold Wr.fill
  rw[e,if_neg (by show ¬ (161:Int)=0; decide)]
  exact⟨rfl,Iff.rfl⟩
 ·split
  ·exact⟨rfl,Iff.rfl⟩
  ·rename_i nt q _
   obtain⟨_,_,_,h1,h2⟩:=zlq (w:={ w with q:=q }) (nt:=nt)
   exact⟨h1,⟨fun h=>absurd h (h2 h4),fun h=>absurd h h4⟩⟩
def OpG(n:Nat)(sl:Int)(o:Op):Prop:=o.who=5∧o.part=sl∧0≤o.pos∧o.pos < n
theorem zFE{o:Op}(hw:m.who=5)(hp:o.part=sl)(h0:e=0→0≤o.pos∧o.pos < n)(h:∀ x ∈ m.ops,OpG n sl x):∀ x ∈ (m.note o e).ops,OpG n sl x:=by
 unfold Mp.note
 split
 ·rename_i he
  intro x hx
  rcases List.mem_append.1 hx with hx|hx
  ·exact h x hx
  ·rw[List.mem_singleton.1 hx]
   exact⟨hw,hp,h0 he⟩
 ·exact h
theorem zvx{pt:Int}(h:(m.place pt pos).2=0):0≤pos∧pos < m.size pt:=by
 unfold Mp.place at h
 split at h
 ·cases h
 ·rename_i h2
  split at h
  ·cases h
  ·unfold Mp.size
   rw[if_pos (Classical.not_not.1 h2)]
   omega
theorem zvG(hz:m.size sl=n)(hw:m.who=5)(h:∀ x ∈ m.ops,OpG n sl x):∀ x ∈ (m.erase sl pos).1.ops,OpG n sl x:=by
 unfold Mp.erase
 split
 ·exact h
 ·rename_i h1
  have:=zvx (Classical.not_not.1 h1)
  rw[hz] at this
  exact zFE (m:={ m with d:=(m.d.erase (m.place sl pos).1).1 }) hw rfl (fun _=>this) h
theorem zMB{x:List Int}(hz:m.size sl=n)(hw:m.who=5)(h:∀ x ∈ m.ops,OpG n sl x):∀ y ∈ (m.program sl pos x).1.ops,OpG n sl y:=by
 unfold Mp.program
 split
 ·exact h
 ·rename_i h1
  have:=zvx (Classical.not_not.1 h1)
  rw[hz] at this
  exact zFE (m:={ m with d:=(m.d.program (m.place sl pos).1 x).1 }) hw rfl (fun _=>this) h
end J
set_option maxRecDepth 100000
namespace J
open Go Go.Ab
variable{H:Heap}{Γ Γ1 Λ Δ S F X N:List (Nat × Blk)}{K:VH}{v cv bv:Value}{cs cs' el:List Value}{p q c k n:Nat}{e pos gh sl:Int}{w w' w1:Wr}{B B':Wl}{b:List Int}{nt:Sn}{m:Mp}{s:Ls}
structure Hi (w:Wr) (n:Nat) (sl:Int):Prop where
 s:w.s=⟨5,sl,1,1,0,1⟩
 token:w.token=1
 slot:w.slot=sl
 bit:Bit sl
 sp:w.m.spans=spansFrom 0 [n,n]
theorem zNB(hb:Bit sl)(h:m.spans=spansFrom 0 [n,n]):m.size sl=n:=by
 have e:m.spans=[(0,n),(0+n,n)]:=h
 have hh:m.has sl:=by
  unfold Mp.has
  rw[e]
  rcases hb with rfl|rfl
  ·exact⟨by decide,by show (0:Int) < 2; decide⟩
  ·exact⟨by decide,by show (1:Int) < 2; decide⟩
 unfold Mp.size
 rw[if_pos hh]
 unfold Mp.span
 rw[e]
 rcases hb with rfl|rfl <;> rfl
theorem zwG(hb:Bit sl):(⟨5,sl,1,1,0,1⟩:Ls).part sl=sl:=by
 unfold Ls.part
 rcases hb with rfl|rfl
 ·rfl
 ·rfl
theorem zrp{f:Mp→Mp × Int}(h:Hi w n sl)(hf:∀ m,m.spans=spansFrom 0 [n,n]→m.who=5→(∀ o ∈ m.ops,OpG n sl o)→(f m).1.spans=m.spans∧∀ o ∈ (f m).1.ops,OpG n sl o)(ho:∀ o ∈ w.m.ops,OpG n sl o) :
  (w.s.as w.m w.token f).1.spans=spansFrom 0 [n,n]∧∀ o ∈ (w.s.as w.m w.token f).1.ops,OpG n sl o:=by
 unfold Ls.as
 split
 ·obtain⟨h1,h2⟩:=hf { w.m with who:=w.s.job } h.sp (by rw[h.s]) ho
  exact⟨h1.trans h.sp,h2⟩
 ·exact⟨h.sp,ho⟩
theorem zOB(h:Hi w n sl)(ho:∀ o ∈ w.m.ops,OpG n sl o):Hi w.step.2 n sl∧∀ o ∈ w.step.2.m.ops,OpG n sl o:=by
 obtain⟨k1,k2,k3⟩:=zmq (w:=w)
 have key:w.step.2.m.spans=spansFrom 0 [n,n]∧∀ o ∈ w.step.2.m.ops,OpG n sl o:=by
  have base:w.m.spans=spansFrom 0 [n,n]∧∀ o ∈ w.m.ops,OpG n sl o:=⟨h.sp,ho⟩
  have hpt:w.s.part w.s.slot=sl:=by rw[h.s]; exact zwG h.bit
  unfold Wr.step
  split
  ·exact base
  split
  ·show w.wipe.m.spans=_∧∀ o ∈ w.wipe.m.ops,_
   unfold Wr.wipe
   split
   ·rename_i y _
    show (w.s.as w.m w.token (·.erase (w.s.part w.s.slot) y)).1.spans=_∧∀ o ∈ (w.s.as w.m w.token (·.erase (w.s.part w.s.slot) y)).1.ops,_
    rw[hpt]
    exact zrp h (fun m hs hw hm=>⟨Mp.erase_s,zvG (zNB h.bit hs) hw hm⟩) ho
   ·exact base
  split
  ·have hs:w.syncs.m.spans=spansFrom 0 [n,n]∧∀ o ∈ w.syncs.m.ops,OpG n sl o:=zrp (f:=(·.sync)) h (fun m hs hw hm=>⟨rfl,hm⟩) ho
   show w.close.m.spans=_∧∀ o ∈ w.close.m.ops,_
   unfold Wr.close
   split
   ·exact hs
   split <;> exact hs
  split
  ·rename_i x xs _
   have hs:(w.fills x).m.spans=spansFrom 0 [n,n]∧∀ o ∈ (w.fills x).m.ops,OpG n sl o:=by
    show (w.s.as w.m w.token (·.program (w.s.part w.s.slot) w.wr x)).1.spans=_∧∀ o ∈ (w.s.as w.m w.token (·.program (w.s.part w.s.slot) w.wr x)).1.ops,_
    rw[hpt]
    exact zrp h (fun m hs hw hm=>⟨Mp.program_s,zMB (zNB h.bit hs) hw hm⟩) ho
   show (w.fill x xs).m.spans=_∧∀ o ∈ (w.fill x xs).m.ops,_
   unfold Wr.fill
   split <;> exact hs
  ·split
   ·exact base
   ·rename_i nt q _
    obtain⟨_,_,_,h1,_⟩:=zlq (w:={ w with q:=q }) (nt:=nt)
    show (({ w with q:=q }:Wr).heed nt).m.spans=_∧∀ o ∈ (({ w with q:=q }:Wr).heed nt).m.ops,_
    rw[h1]
    exact base
 exact⟨⟨k1.trans h.s,k2.trans h.token,k3.trans h.slot,h.bit,key.1⟩,key.2⟩
structure Lst (w:Wr) (n:Nat) (sl:Int) (lost:Bool):Prop where
 bit:Bit sl
 token:w.token=1
 slot:w.slot=sl
 hi:lost=false→Hi w n sl
 lo:lost=true→w.s=⟨0,0,0,1,0,1⟩∧w.m.ops=[]
 ops:∀ o ∈ w.m.ops,OpG n sl o
theorem Lst.nil(h:Lst w n sl true):w.m.ops=[]:=(h.lo rfl).2
theorem Lst.drops{lost:Bool}(h:Lst w n sl lost):Lst { w with s:=w.s.drop 1,m:={ w.m with ops:=[] } } n sl true:=by
 refine⟨h.bit,h.token,h.slot,fun h=>(by cases h),fun _=>⟨?_,rfl⟩,fun o ho=>(by cases ho)⟩
 show w.s.drop 1=_
 cases lost with
 | false=>
  rw[(h.hi rfl).s]
  unfold Ls.drop
  rw[if_pos ⟨Nat.one_ne_zero,rfl⟩]
 | true=>
  rw[(h.lo rfl).1]
  unfold Ls.drop
  rw[if_neg (fun h=>h.1 rfl)]
theorem Lst.stepd{lost:Bool}(h:Lst w n sl lost):Lst w.step.2 n sl lost:=by
 obtain⟨k1,k2,k3⟩:=zmq (w:=w)
 cases lost with
 | false=>
  obtain⟨g1,g2⟩:=zOB (h.hi rfl) h.ops
  exact⟨h.bit,k2.trans h.token,k3.trans h.slot,fun _=>g1,fun h=>(by cases h),g2⟩
 | true=>
  have hn:¬ w.s.holds w.token:=by rw[(h.lo rfl).1]; exact fun h=>h.1 rfl
  obtain⟨g1,_⟩:=zEu hn
  refine⟨h.bit,k2.trans h.token,k3.trans h.slot,fun h=>(by cases h),fun _=>⟨k1.trans (h.lo rfl).1,by rw[g1]; exact (h.lo rfl).2⟩,by rw[g1]; exact h.ops⟩
theorem Lst.sent{lost:Bool}(h:Lst w n sl lost)(q:List Sn):Lst { w with q:=q } n sl lost:=
 ⟨h.bit,h.token,h.slot,fun hl=>⟨(h.hi hl).s,(h.hi hl).token,(h.hi hl).slot,(h.hi hl).bit,(h.hi hl).sp⟩,fun hl=>h.lo hl,h.ops⟩
theorem Lst.read{lost:Bool}(h:Lst w n sl lost):Lst { w with m:={ w.m with ops:=[] } } n sl lost:=
 ⟨h.bit,h.token,h.slot,fun hl=>⟨(h.hi hl).s,(h.hi hl).token,(h.hi hl).slot,(h.hi hl).bit,(h.hi hl).sp⟩,fun hl=>⟨(h.lo hl).1,rfl⟩,fun o ho=>(by cases ho)⟩
theorem Lst.new(h1:1≤n)(hb:Bit sl):Lst (w0 n sl) n sl false:=⟨hb,rfl,rfl,fun _=>⟨rfl,rfl,rfl,hb,rfl⟩,fun h=>(by cases h),fun o ho=>(by cases ho)⟩
end J
set_option maxRecDepth 100000
namespace J
open Go Go.Ab
variable{H:Heap}{Γ Γ1 Λ Δ S F X N:List (Nat × Blk)}{K:VH}{v cv bv:Value}{cs cs' el:List Value}{p q c k n:Nat}{e pos gh sl room:Int}{w w' w1:Wr}{B B':Wl}{b:List Int}{nt:Sn}{m:Mp}{s:Ls}{lost:Bool}
theorem zGE(h:WSt H S F w B):St H ((((S++F)++[(B.A.q,(⟨B.A.cs,true⟩:Blk)),(B.A.r,⟨rgC B.A.q B.A.n 1 B.A.f B.A.es.length,true⟩)])++[(B.l,⟨lsC w.s B.L.pm,true⟩)])++([(B.c,⟨B.wc w,true⟩)]++MW B.L w.m)):=by
 have h:St H (((S++F)++wB B.A B.l (lsC w.s B.L.pm) B.c (B.wc w))++MW B.L w.m):=h
 unfold wB at h
 simp only[List.append_assoc,List.cons_append,List.nil_append] at h ⊢
 exact h
theorem zPB{s':Ls}(h:St H ((((S++F)++[(B.A.q,(⟨B.A.cs,true⟩:Blk)),(B.A.r,⟨rgC B.A.q B.A.n 1 B.A.f B.A.es.length,true⟩)])++[(B.l,⟨lsC s' B.L.pm,true⟩)])++([(B.c,⟨B.wc w,true⟩)]++MW B.L w.m))):WSt H S F { w with s:=s' } B:=by
 show St H (((S++F)++wB B.A B.l (lsC s' B.L.pm) B.c (B.wc w))++MW B.L w.m)
 unfold wB
 simp only[List.append_assoc,List.cons_append,List.nil_append] at h ⊢
 exact h
theorem znq(hR:WrR S w B)(hO:WSt H S F w B)
  (hk:∀ H' B',B.Same B'→WrR S { w with m:={ w.m with ops:=[] } } B'→St H' ((((S++F)++B'.blk { w with m:={ w.m with ops:=[] } })++MW B'.L { w.m with ops:=[] })++zhb B.L.vo (zOp w.m.ops))→K B.L.vo H'):wCall P zXb [ptr B.L.pm 0] H K:=by
 refine zfu hO hR.own ?_
 intro H' hO' hv
 refine hk H' (B.at { B.L with vo:=zBa }) (Wl.same_at ⟨rfl,rfl,rfl,rfl⟩) ⟨hR.q,hR.sd,hR.sv,hR.ss,hR.sb,hR.s,⟨⟨hR.m.ok.d,hR.m.ok.s,hR.m.ok.n⟩,hR.m.b⟩,hv,hR.nx,hR.wr⟩ ?_
 exact hO'.rot
theorem zFu{size:Nat}(h:Own size v n cs):lenSl v H=some (int n,H):=by
 rcases h with⟨rfl,rfl,_⟩|⟨p,rfl|rfl,_⟩ <;> rfl
theorem zrI{size:Nat}(h:Own size v n cs)(hn:0 < n):∃ p c,v=Go.Ab.sl p 0 n c∧zhb v cs=[(p,⟨cs,true⟩)]:=by
 rcases h with⟨_,h,_⟩|⟨p,rfl|rfl,_⟩
 ·omega
 ·exact⟨_,_,rfl,rfl⟩
 ·exact⟨_,_,rfl,rfl⟩
theorem zsI{l:List Op}{i:Nat}(h:i < l.length):((zOp l).drop (i * 4)).take 4=opC l[i]:=by
 have h6:=zMp (f:=opC) (l:=l) (n:=4) (o:=0) (m:=4) (fun s hx=>rfl) h (by omega)
 rw[Nat.add_zero] at h6
 unfold zOp
 rw[h6,List.drop_zero]
 rfl
theorem zlK:zc P 79=opC ⟨0,0,0,0⟩:=by kernel_rfl
end J
set_option maxRecDepth 100000
namespace J
open Go Go.Ab
variable{H:Heap}{Γ Γ1 Λ Δ S F X N:List (Nat × Blk)}{K:VH}{v cv bv vo:Value}{cs cs' el:List Value}{p p3 q c j k n:Nat}{e pos gh sl room wrr:Int}{w w' w1:Wr}{B B':Wl}{b:List Int}{nt:Sn}{m:Mp}{s:Ls}{lost:Bool}
set_option maxHeartbeats 4000000 in
theorem zYD{ops:List Op}{t0 t2 t3 t5 t6 t7:Value}{Qx:LX}{Qr:LN}(hown:Own 4 vo ops.length (zOp ops))(hlost:lost=true→ops=[])(hg:∀ o ∈ ops,OpG n sl o)(hl:ops.length≤1000000)
  (hp3:Γ[j]?=some (p3,⟨[int n,int wrr,int sl,int room],true⟩)) (hO:St H (Γ++zhb vo (zOp ops))) (hk:∀ H',St H' (Γ++zhb vo (zOp ops))→Qx 2 [t0,ptr p3 0,t2,t3,.bool lost,t5,t6,t7] H') :
  zdb P true 154 zse 15032385996 [t0,ptr p3 0,t2,t3,.bool lost,t5,t6,t7,vo,int ops.length,int 0] H Qx Qr:=by
 refine zMi (fun k l' H'=>∃ y:Nat,y≤ops.length∧k=ops.length - y∧l'=[t0,ptr p3 0,t2,t3,.bool lost,t5,t6,t7,vo,int ops.length,int y]∧St H' (Γ++zhb vo (zOp ops))) _ _ ?_ ops.length _ _ ⟨0,by omega,rfl,rfl,hO⟩
 clear hO
 rintro k l' H ⟨y,hy,rfl,rfl,hO⟩
 unfold zJg
 try simp only[zia,zja]
 refine zaa zIa ?_
 refine zna (fun h=>?_) (fun h=>?_)
 ·have hyl:y < ops.length:=by omega
  obtain⟨po,co,rfl,hout⟩:=zrI hown (by omega)
  have hlf:lost=false:=by
   cases lost with
   | false=>rfl
   | true=>rw[hlost rfl] at hyl; cases hyl
  subst hlf
  refine zaa (zfb (by omega) (by omega)) ?_
  rw[hout] at hO
  refine zMa hO (Γ.length+0) (zua rfl) (show _=opC ops[y] by rw[Int.toNat_natCast,Nat.zero_add]; exact zsI hyl) rfl (by omega) ?_
  rw[zlK]
  refine zHa hO ?_
  clear hO
  intro p12 H hO
  refine zra hO (_+0) (zua rfl) rfl rfl rfl ?_
  clear hO
  intro H hO
  replace hO:=hO.set_r
  obtain⟨g1,g2,g3,g4⟩:=hg ops[y] (List.getElem_mem hyl)
  have hback:=hO.left
  rw[← hout] at hback
  generalize ops[y]=o at *
  obtain⟨ok,opt,opos,owho⟩:=o
  simp only at g1 g2 g3 g4
  subst g1 g2
  have h12:(((Γ++[(po,(⟨zOp ops,true⟩:Blk))]))++[(p12,(⟨opC ⟨ok,opt,opos,5⟩,true⟩:Blk))])[(Γ++[(po,(⟨zOp ops,true⟩:Blk))]).length+0]?=some (p12,⟨opC ⟨ok,opt,opos,5⟩,true⟩):=zua rfl
  refine zXa rfl ?_
  repeat (first|refine oi ?_|refine ow ?_|refine wy ?_|refine wn ?_|refine wt ?_|refine wf' ?_|refine cy ?_|refine cn ?_)
  refine zga hO _ h12 (v:=int 5) rfl ?_
  refine zaa (show _=some (Value.bool false) from zGb) ?_
  refine zaa zVa ?_
  refine zXa rfl ?_
  repeat (first|refine oi ?_|refine ow ?_|refine wy ?_|refine wn ?_|refine wt ?_|refine wf' ?_|refine cy ?_|refine cn ?_)
  refine zga hO _ h12 (v:=int opt) rfl ?_
  repeat (first|refine oi ?_|refine ow ?_|refine wy ?_|refine wn ?_|refine wt ?_|refine wf' ?_|refine cy ?_|refine cn ?_)
  refine zga hO j (zwa (zwa hp3)) (v:=int opt) rfl ?_
  refine zaa zGb ?_
  rw[decide_eq_false (show ¬ (opt≠opt) from fun h=>h rfl)]
  refine zaa zVa ?_
  refine zXa rfl ?_
  repeat (first|refine oi ?_|refine ow ?_|refine wy ?_|refine wn ?_|refine wt ?_|refine wf' ?_|refine cy ?_|refine cn ?_)
  refine zga hO _ h12 (v:=int opos) rfl ?_
  refine zaa zIa ?_
  rw[decide_eq_false (show ¬ opos < 0 by omega)]
  refine zaa zVa ?_
  refine zXa rfl ?_
  repeat (first|refine oi ?_|refine ow ?_|refine wy ?_|refine wn ?_|refine wt ?_|refine wf' ?_|refine cy ?_|refine cn ?_)
  refine zga hO _ h12 (v:=int opos) rfl ?_
  repeat (first|refine oi ?_|refine ow ?_|refine wy ?_|refine wn ?_|refine wt ?_|refine wf' ?_|refine cy ?_|refine cn ?_)
  refine zga hO j (zwa (zwa hp3)) (v:=int n) rfl ?_
  refine zaa zMf ?_
  rw[decide_eq_false (show ¬ opos ≥ (n:Int) by omega)]
  refine zaa zVa ?_
  refine zXa rfl ?_
  refine zaa (v:=int ((y+1:Nat):Int)) (by rw[zYa (by omega) (by omega)]; rfl) ?_
  exact⟨_,by omega,y+1,by omega,rfl,rfl,hback⟩
 ·exact hk H hO
end J
set_option maxRecDepth 100000
namespace J
open Go Go.Ab
variable{H:Heap}{Γ Γ1 Λ Δ S F X N:List (Nat × Blk)}{K:VH}{v cv bv vo:Value}{cs cs' el:List Value}{p p3 q c j k n:Nat}{e pos gh sl room wrr at':Int}{w w' w1:Wr}{B B':Wl}{b:List Int}{nt:Sn}{m:Mp}{s:Ls}{lost:Bool}
theorem zZD(b:Bool):(zma P .eql 4 false).f (.bool b) (.bool b)=some (.bool true):=by cases b <;> kernel_rfl
theorem ztI:(⟨0,0,0,1,0,1⟩:Ls).Ok:=⟨⟨by decide,by decide⟩,⟨by decide,by decide⟩⟩
set_option maxHeartbeats 8000000 in
theorem wlost_main{ss slot:Int}{acts:List AcW}(hA:RdAc Γ v acts)(hO:St H Γ)(hK:∀ H,K (.bool true) H):wCall P znc [agg [int ss,int wrr,int slot,int room],v,int at'] H K:=by
 apply zQl; unfold zkj
 rw[zfd]
 refine zHa hO ?_
 clear hO
 intro p3 H hO
 refine zKj hO ?_
 clear hO
 intro H hO
 refine zaa zmc ?_
 refine zXa rfl ?_
 refine zta hO (Γ.length+0) (zua rfl) (n:=4) rfl (by omega) ?_
 refine zHy hA.app hO (fun H hO=>zsc rfl (hK H)) ?_
 clear hO
 intro g1 g2 g3 g4 g5 g6 H hO
 obtain⟨n,rfl⟩:∃ n:Nat,ss=n:=⟨ss.toNat,by omega⟩
 refine zXa rfl ?_
 repeat (first|refine oi ?_|refine ow ?_|refine wy ?_|refine wn ?_|refine wt ?_|refine wf' ?_|refine cy ?_|refine cn ?_)
 refine zga hO (Γ.length+0) (zua rfl) (v:=int n) rfl ?_
 repeat (first|refine oi ?_|refine ow ?_|refine wy ?_|refine wn ?_|refine wt ?_|refine wf' ?_|refine cy ?_|refine cn ?_)
 refine zga hO (Γ.length+0) (zua rfl) (v:=int slot) rfl ?_
 repeat (first|refine oi ?_|refine ow ?_|refine wy ?_|refine wn ?_|refine wt ?_|refine wf' ?_|refine cy ?_|refine cn ?_)
 refine zga hO (Γ.length+0) (zua rfl) (v:=int room) rfl ?_
 have hO1:=hO
 rw[← List.append_nil (Γ++[(p3,(⟨[int n,int wrr,int slot,int room],true⟩:Blk))])] at hO1
 have hp3:∀ {Δ},((Γ++[(p3,(⟨[int n,int wrr,int slot,int room],true⟩:Blk))])++Δ)[Γ.length+0]?=some (p3,⟨[int n,int wrr,int slot,int room],true⟩):=zwa (zua rfl)
 have hA0:RdAc (Γ++[(p3,(⟨[int n,int wrr,int slot,int room],true⟩:Blk))]) v acts:=hA.app
 generalize Γ++[(p3,(⟨[int n,int wrr,int slot,int room],true⟩:Blk))]=S at *
 refine zIj (n:=n) (i:=slot) (room:=room) (by omega) (by omega) ⟨g3,g4⟩ hO1 ?_
 clear hO hO1
 intro H b B hBn hR hO
 replace hO:WSt H S [(b,⟨bnC B,true⟩)] (w0 n slot) B:=hO
 have hbit:Bit slot:=by unfold Bit; omega
 have hbn:∀ {S' w' B'},((((S'++[(b,(⟨bnC B,true⟩:Blk))])++Wl.blk B' w')++MW B'.L w'.m))[S'.length+0]?=some (b,⟨bnC B,true⟩):=zwa (zwa (zua rfl))
 have hbn2:∀ {S' w' B' N},((((S'++([(b,(⟨bnC B,true⟩:Blk))]++N))++Wl.blk B' w')++MW B'.L w'.m))[S'.length+0]?=some (b,⟨bnC B,true⟩):=zwa (zwa (zua rfl))
 have c0:∀ {B':Wl},B.Same B'→(bnC B)[0+0]?=some (ptr B'.L.pm 0):=fun h=>by rw[← zgc h]; rfl
 have c1:∀ {B':Wl},B.Same B'→(bnC B)[0+1]?=some (ptr B'.l 0):=fun h=>by rw[← zgc h]; rfl
 have c2:∀ {B':Wl},B.Same B'→(bnC B)[0+2]?=some (ptr B'.A.r 0):=fun h=>by rw[← zgc h]; rfl
 have c3:∀ {B':Wl},B.Same B'→(bnC B)[0+3]?=some (ptr B'.c 0):=fun h=>by rw[← zgc h]; rfl
 refine zaa (zqB _) ?_
 refine zXa rfl ?_
 refine zCa hA.lenSl ?_
 refine zKi (fun k l' H'=>∃ (y:Nat) (X:List (Nat × Blk)) (w':Wr) (B':Wl) (lost:Bool),y≤acts.length∧k=acts.length - y∧l'=[int at',ptr p3 0,.bool false,ptr b 0,.bool lost,v,int acts.length,int y]∧B.Same B'∧WrR (S++X) w' B'∧0≤w'.sd.sz∧w'.m.Sm y∧Lst w' n slot lost∧w'.m.ops=[]∧WSt H' (S++X) [(b,⟨bnC B,true⟩)] w' B') _ _ ?_ acts.length _ _ ⟨0,[],w0 n slot,B,false,by omega,rfl,rfl,.rfl',by rw[List.append_nil]; exact hR,Int.le_refl 0,⟨Nat.le_refl 0,Nat.le_refl 0⟩,Lst.new (by omega) hbit,rfl,by rw[List.append_nil]; exact hO⟩
 clear hO hR
 rintro k l' H ⟨y,X,w',B',lost,hy,rfl,rfl,hB',hR,hz,hsm,hL,hops,hO⟩
 unfold zHg
 try simp only[zia,zja]
 refine zaa zIa ?_
 refine zna (fun h=>?_) (fun h=>?_)
 ·have hyl:y < acts.length:=by omega
  have hgood:=g6 acts[y] (List.getElem_mem hyl)
  obtain⟨pa,ca,ja,wa,csa,cv,bv,rfl,hja,hcs,hcv,hwk,hbv,hby⟩:=hA0.get hyl
  refine zaa (zfb (by omega) (by omega)) ?_
  refine zMa hO ja (zwa (zwa (zwa (zwa hja)))) (by rw[Int.toNat_natCast]; exact hcs) (zkq hwk.dl) (by omega) ?_
  rw[zoI]
  refine zHa hO ?_
  clear hO
  intro p10 H hO
  refine zra hO (_+0) (zua rfl) (by rfl) (zkq hwk.dl) (zKB hcv.one (zux hbv)) ?_
  clear hO
  intro H hO
  replace hO:=toF hO.set_r
  replace hO:WSt H (S++X) ([(b,⟨bnC B,true⟩)]++[(p10,⟨acC acts[y] cv bv,true⟩)]) w' B':=hO
  have ok:acts[y].m.Ok:=hwk.ok (by unfold zOs at hgood; omega) (by unfold zOs at hgood; omega)
  generalize acts[y]=ac at *
  have hp10:∀ {S' w' B'},((((S'++([(b,(⟨bnC B,true⟩:Blk))]++[(p10,(⟨acC ac cv bv,true⟩:Blk))]))++Wl.blk B' w')++MW B'.L w'.m))[S'.length+(1+0)]?=some (p10,⟨acC ac cv bv,true⟩):=zwa (zwa (zua rfl))
  refine zva (fun l' H'=>∃ (w2:Wr) (B2:Wl) (lost2:Bool),l'=[int at',ptr p3 0,.bool false,ptr b 0,.bool lost2,ptr p10 0,Go.Ab.sl pa 0 acts.length ca,int acts.length,int y]∧B.Same B2∧WrR (S++X) w2 B2∧0≤w2.sd.sz∧w2.m.Sm y∧Lst w2 n slot lost2∧w2.m.ops=[]∧WSt H' (S++X) ([(b,⟨bnC B,true⟩)]++[(p10,⟨acC ac cv bv,true⟩)]) w2 B2) ?_ ?_
  ·refine zaa zib ?_
   refine zna (fun hat=>?_) (fun hat=>?_)
   ·repeat (first|refine oi ?_|refine ow ?_|refine wy ?_|refine wn ?_|refine wt ?_|refine wf' ?_|refine cy ?_|refine cn ?_)
    refine zga hO _ hbn2 (c1 hB') ?_
    repeat (first|refine oi ?_|refine ow ?_|refine wy ?_|refine wn ?_|refine wt ?_|refine wf' ?_|refine cy ?_|refine cn ?_)
    refine zga hO _ hbn2 (v:=zsb .u64 1) rfl ?_
    refine zaB (zGE hO) ?_
    clear hO
    intro H hO
    replace hO:=zPB hO
    have hLd:=hL.drops
    have hR1:WrR (S++X) { w' with s:=w'.s.drop 1 } B':=⟨hR.q,hR.sd,hR.sv,hR.ss,hR.sb,by rw[show ({ w' with s:=w'.s.drop 1 }:Wr).s=_ from (hLd.lo rfl).1]; exact ztI,hR.m,hR.own,hR.nx,hR.wr⟩
    repeat (first|refine oi ?_|refine ow ?_|refine wy ?_|refine wn ?_|refine wt ?_|refine wf' ?_|refine cy ?_|refine cn ?_)
    refine zga hO _ hbn2 (c0 hB') ?_
    refine znq hR1 hO ?_
    clear hO
    intro H B2 hB2 hR2 hO
    exact⟨_,B2,true,rfl,hB'.trans hB2,hR2,hz,⟨hsm.1,Nat.zero_le _⟩,hLd,rfl,hO.left⟩
   ·exact⟨w',B',lost,rfl,hB',hR,hz,hsm,hL,hops,hO⟩
  clear hO hR hz hsm hL hops hB'
  rintro l' H ⟨w2,B2,lost2,rfl,hB2,hR,hz,hsm,hL,hops,hO⟩
  try simp only[zia,zja]
  refine zva (fun l' H'=>∃ (X2:List (Nat × Blk)) (w3:Wr) (B3:Wl),l'=[int at',ptr p3 0,.bool false,ptr b 0,.bool lost2,Go.Ab.sl pa 0 acts.length ca,int acts.length,int y]∧B.Same B3∧WrR (S++X2) w3 B3∧0≤w3.sd.sz∧w3.m.Sm (y+1)∧Lst w3 n slot lost2∧WSt H' (S++X2) ([(b,⟨bnC B,true⟩)]++[(p10,⟨acC ac cv bv,true⟩)]) w3 B3) ?_ ?_
  ·repeat (first|refine oi ?_|refine ow ?_|refine wy ?_|refine wn ?_|refine wt ?_|refine wf' ?_|refine cy ?_|refine cn ?_)
   refine zga hO _ hp10 (v:=int ac.k) rfl ?_
   refine zaa zib ?_
   refine zna (fun hk1=>?_) (fun hk1=>?_)
   ·repeat (first|refine oi ?_|refine ow ?_|refine wy ?_|refine wn ?_|refine wt ?_|refine wf' ?_|refine cy ?_|refine cn ?_)
    refine zga hO _ hbn2 (c2 hB2) ?_
    repeat (first|refine oi ?_|refine ow ?_|refine wy ?_|refine wn ?_|refine wt ?_|refine wf' ?_|refine cy ?_|refine cn ?_)
    refine zMa hO _ hp10 (zuG hwk.dl) (by simp[ntC,zUa hwk.dl]) (by omega) ?_
    have hO1:=hO
    refine zLB (S:=S++X) hO hcv.app ok hbv.app hby ?_
    clear hO
    intro H vn hnt hv1 hO
    refine⟨same_at hO1 _ hbn2 hO _ hbn2 rfl,?_⟩
    refine zWd hR hnt hv1 hO (fun _=>?_) (fun _ H' B3 hB3 hR3 hO3=>?_)
    ·exact⟨X,w2,B2,rfl,hB2,hR,hz,hsm.mono (by omega),hL,hO⟩
    ·exact⟨X,_,B3,rfl,hB2.trans hB3,hR3,hz,hsm.mono (by omega),hL.sent _,hO3⟩
   ·repeat (first|refine oi ?_|refine ow ?_|refine wy ?_|refine wn ?_|refine wt ?_|refine wf' ?_|refine cy ?_|refine cn ?_)
    refine zga hO _ hbn2 (c3 hB2) ?_
    refine zWb hR hz hsm (by omega) hO ?_
    clear hO
    intro H B3 X3 k1 k2 k3 k4 hO
    rw[List.append_assoc] at k2 hO
    exact⟨X++X3,_,B3,rfl,hB2.trans k1,k2,k3,k4,hL.stepd,hO⟩
  clear hO hR hz hsm hL hops hB2
  rintro l' H ⟨X2,w3,B3,rfl,hB3,hR,hz,hsm,hL,hO⟩
  try simp only[zia,zja]
  repeat (first|refine oi ?_|refine ow ?_|refine wy ?_|refine wn ?_|refine wt ?_|refine wf' ?_|refine cy ?_|refine cn ?_)
  refine zga hO _ hbn2 (c0 hB3) ?_
  refine znq hR hO ?_
  clear hO
  intro H B4 hB4 hR4 hO
  refine zCa (zFu hR.own.o) ?_
  refine zYD hR.own.o (fun hl=>by subst hl; exact hL.nil) hL.ops (by have:=hsm.2; omega) (zwa (zwa (zwa hp3))) hO ?_
  clear hO
  intro H hO
  refine zKa rfl ?_
  try simp only[zia,zja]
  refine zaa (v:=int ((y+1:Nat):Int)) (by rw[zYa (by omega) (by omega)]; rfl) ?_
  exact⟨_,by omega,y+1,X2,_,B4,lost2,by omega,rfl,rfl,hB3.trans hB4,hR4,hz,⟨hsm.1,Nat.zero_le _⟩,hL.read,rfl,zLD (N:=[(p10,⟨acC ac cv bv,true⟩)]) hO.left⟩
 ·have ey:y=acts.length:=by omega
  subst ey
  refine zKa rfl ?_
  try simp only[zia,zja]
  refine zaa zmc ?_
  cases lost with
  | false=>exact zsc rfl (hK H)
  | true=>
   refine zXa rfl ?_
   have hls:=(hL.lo rfl).1
   repeat (first|refine oi ?_|refine ow ?_|refine wy ?_|refine wn ?_|refine wt ?_|refine wf' ?_|refine cy ?_|refine cn ?_)
   refine zga hO _ hbn (c3 hB') ?_
   refine zMe hR hO ?_
   repeat (first|refine oi ?_|refine ow ?_|refine wy ?_|refine wn ?_|refine wt ?_|refine wf' ?_|refine cy ?_|refine cn ?_)
   refine zga hO _ hbn (c1 hB') ?_
   repeat (first|refine oi ?_|refine ow ?_|refine wy ?_|refine wn ?_|refine wt ?_|refine wf' ?_|refine cy ?_|refine cn ?_)
   refine zga hO _ (zwa (zwa (zwa hp3))) (v:=int slot) rfl ?_
   have e:w'.s.takes 6 slot=(2,0,⟨6,slot,2,2,0,1⟩):=by
    rw[hls]
    unfold Ls.takes
    rw[if_neg (by omega),if_neg (by decide)]
   refine zwu (by rw[hls]; decide) (zGE hO) ?_
   clear hO
   intro H hO
   replace hO:=zPB hO
   rw[e] at hO ⊢
   have hs1:({ w' with s:=(2,(0:Int),(⟨6,slot,2,2,0,1⟩:Ls)).2.2 }:Wr).s=⟨6,slot,2,2,0,1⟩:=rfl
   have hR1:WrR (S++X) { w' with s:=(2,(0:Int),(⟨6,slot,2,2,0,1⟩:Ls)).2.2 } B':=⟨hR.q,hR.sd,hR.sv,hR.ss,hR.sb,⟨⟨g3,by show slot < 2; omega⟩,⟨by show (0:Int)≤0; omega,by show (0:Int)≤1; omega⟩⟩,hR.m,hR.own,hR.nx,hR.wr⟩
   have hz1:0≤({ w' with s:=(2,(0:Int),(⟨6,slot,2,2,0,1⟩:Ls)).2.2 }:Wr).sd.sz:=hz
   have hm1:({ w' with s:=(2,(0:Int),(⟨6,slot,2,2,0,1⟩:Ls)).2.2 }:Wr).m.Sm acts.length:=hsm
   have ht1:({ w' with s:=(2,(0:Int),(⟨6,slot,2,2,0,1⟩:Ls)).2.2 }:Wr).token=1:=hL.token
   have ho1:({ w' with s:=(2,(0:Int),(⟨6,slot,2,2,0,1⟩:Ls)).2.2 }:Wr).m.ops=[]:=hops
   have hg1:({ w' with s:=(2,(0:Int),(⟨6,slot,2,2,0,1⟩:Ls)).2.2 }:Wr).sg=w'.sg:=rfl
   generalize ({ w' with s:=(2,(0:Int),(⟨6,slot,2,2,0,1⟩:Ls)).2.2 }:Wr)=wA at *
   refine zaa zXt ?_
   refine zaa zYt ?_
   refine zLi (fun k l' H'=>∃ (y:Nat) (X2:List (Nat × Blk)) (w2:Wr) (B2:Wl),y≤30∧k=30 - y∧l'=[.bool false,ptr b 0,.bool (decide (w'.sg=4)),int 0,int y]∧B.Same B2∧WrR (S++X2) w2 B2∧0≤w2.sd.sz∧w2.m.Sm (acts.length+y)∧w2.s=⟨6,slot,2,2,0,1⟩∧w2.token=1∧w2.m.ops=[]∧(w2.sg=4↔w'.sg=4)∧WSt H' (S++X2) [(b,⟨bnC B,true⟩)] w2 B2) _ _ ?_ 30 _ _ ⟨0,X,wA,B',by omega,rfl,rfl,hB',hR1,hz1,hm1,hs1,ht1,ho1,by rw[hg1],hO⟩
   clear hO
   rintro k l' H ⟨y,X2,w2,B2,hy2,rfl,rfl,hB2,hR2,hz2,hm2,hs2,ht2,ho2,hg2,hO⟩
   unfold zIg
   try simp only[zia,zja]
   refine zaa zIa ?_
   refine zna (fun h=>?_) (fun h=>?_)
   ·repeat (first|refine oi ?_|refine ow ?_|refine wy ?_|refine wn ?_|refine wt ?_|refine wf' ?_|refine cy ?_|refine cn ?_)
    refine zga hO _ hbn (c3 hB2) ?_
    refine zWb hR2 hz2 hm2 (by omega) hO ?_
    clear hO
    intro H B3 X3 k1 k2 k3 k4 hO
    have hnh:¬ w2.s.holds w2.token:=by rw[hs2,ht2]; exact fun h=>(show ¬ (2=1) by decide) h.2
    obtain⟨q1,q2⟩:=zEu hnh
    obtain⟨q3,q4,_⟩:=zmq (w:=w2)
    refine zaa (v:=int ((y+1:Nat):Int)) (by rw[zYa (by omega) (by omega)]; rfl) ?_
    rw[List.append_assoc] at k2 hO
    exact⟨_,by omega,y+1,X2++X3,_,B3,by omega,rfl,rfl,hB2.trans k1,k2,k3,k4,q3.trans hs2,q4.trans ht2,by rw[q1]; exact ho2,q2.trans hg2,hO⟩
   ·refine zKa rfl ?_
    try simp only[zia,zja]
    refine zaa zib ?_
    refine zsc rfl ?_
    repeat (first|refine oi ?_|refine ow ?_|refine wy ?_|refine wn ?_|refine wt ?_|refine wf' ?_|refine cy ?_|refine cn ?_)
    refine zga hO _ hbn (c3 hB2) ?_
    refine zMe hR2 hO ?_
    rw[show decide (w2.sg=4)=decide (w'.sg=4) from decide_eq_decide.2 hg2]
    refine zaa (zZD _) ?_
    refine zaa zwb ?_
    refine zsc rfl ?_
    repeat (first|refine oi ?_|refine ow ?_|refine wy ?_|refine wn ?_|refine wt ?_|refine wf' ?_|refine cy ?_|refine cn ?_)
    refine zga hO _ hbn (c0 hB2) ?_
    refine znq hR2 hO ?_
    clear hO
    intro H B4 hB4 hR4 hO
    refine zCa (zFu hR2.own.o) ?_
    rw[ho2]
    refine zaa zib ?_
    refine zaa zwb ?_
    exact hK H
end J
set_option maxRecDepth 100000
namespace J
open Go Go.Ab
variable{H:Heap}{Γ Γ0 Γ2 Δ G L:List (Nat × Blk)}{K:VH}{v w x cv dv iv:Value}{xs ys zs:List Int}{m a:Mf}{cks:List (List Int)}
theorem zgw{ts:List TypeId}{N:Nat}{c:List Value}{b:List (List Value)}(h:ShpL P (22::ts) N c b) :
  ∃ v c' b1 b2 xs,c=v::c'∧b=b1++b2∧RdB (zvv N b1) v xs∧By xs∧ShpL P ts (N+b1.length) c' b2:=by
 rcases zYz zgK h with⟨c',e1,h3⟩|⟨len,cells,c',bs,b',e1,eb1,hm,hl,h3,h4⟩
 ·exact⟨_,c',[],b,[],e1,rfl,.inl ⟨rfl,rfl⟩,fun x hx=>(by cases hx),h3⟩
 ·obtain⟨hb,xs,rfl,rfl,hw⟩:=zEt (k:=.u8) Go.Proofs.Tryz.underlying5 _ _ _ _ h3
  subst hb
  subst eb1
  exact⟨_,c',[_],b',xs,e1,rfl,.inr ⟨N,0,_,rfl,.inl rfl,.inr ⟨0,_,rfl,by rw[List.drop_zero]; exact List.take_of_length_le (by simp)⟩⟩,fun x hx=>wf_u8 (hw x hx),h4⟩
theorem zvJ{m:Mf}(h:m.Wf):m.Wk:=by
 obtain⟨h1,h2,h3,h4,h5,h6,h7⟩:=h
 exact⟨h1,h2,h3,h4,h5,h6,h7⟩
theorem zwJ:P.underlying 70=some (.slice 75):=by kernel_rfl
theorem zmK:P.cellsOf 75=43:=by kernel_rfl
theorem AcR.app'{S X:List (Nat × Blk)}{a:AcW}{el:List Value}(h:AcR S a el):AcR (X++S) a el:=by
 obtain⟨cv,bv,h1,h2,h3,h4,h5⟩:=h
 exact⟨cv,bv,h1,h2.app',h3,h4.app',h5⟩
theorem zQB:∀ (n N:Nat) (c:List Value) (b:List (List Value)),ShpL P (List.replicate n 75) N c b→∃ (acts:List AcW) (es:List (List Value)),c=es.flatten∧acts.length=n∧Al (AcR (zvv N b)) acts es
 | 0,N,c,b,h=>by cases h; exact⟨[],[],rfl,rfl,.nil⟩
 | n+1,N,c,b,h=>by
  have h0:=zfg Go.Proofs.Tryz.underlying75 (show ShpL P (75::List.replicate n 75) N c b from h)
  have h0:ShpL P (3::3::73::List.replicate n 75) N c b:=h0
  obtain⟨k,c1,rfl,w1,h1⟩:=zfc (k:=.i64) Go.Proofs.Tryz.underlying3 h0
  obtain⟨kn,c2,rfl,w2,h2⟩:=zfc (k:=.i64) Go.Proofs.Tryz.underlying3 h1
  have h3:=zfg Go.Proofs.Tryz.underlying73 h2
  have h3:ShpL P (3::3::3::31::22::List.replicate n 75) N c2 b:=h3
  obtain⟨tk,c3,rfl,w3,h4⟩:=zfc (k:=.i64) Go.Proofs.Tryz.underlying3 h3
  obtain⟨ta,c4,rfl,w4,h5⟩:=zfc (k:=.i64) Go.Proofs.Tryz.underlying3 h4
  obtain⟨th,c5,rfl,w5,h6⟩:=zfc (k:=.i64) Go.Proofs.Tryz.underlying3 h5
  obtain⟨m,cv,c6,b1,b2,rfl,rfl,g1,g2,h7⟩:=zPH h6
  obtain⟨bv,c7,b3,b4,xs,rfl,rfl,g3,g4,h8⟩:=zgw h7
  obtain⟨acts,es,rfl,hl,hal⟩:=zQB n _ _ _ h8
  rw[argG_append,argG_append]
  refine⟨⟨k,kn,tk,ta,th,m,xs⟩::acts,acC ⟨k,kn,tk,ta,th,m,xs⟩ cv bv::es,?_,by simp[hl],.cons ⟨cv,bv,rfl,g1.app,zvJ g2,g3.app.app',g4⟩ (hal.imp fun _ _ h=>h.app'.app')⟩
  simp[acC]
theorem arg_acw{ts:List TypeId}{N:Nat}{av:List Value}{b:List (List Value)}(h:ArgS P (70::ts) N av b) :
  ∃ v vs b1 b2 acts,av=v::vs∧b=b1++b2∧RdAc (zvv N b1) v acts∧ArgS P ts (N+b1.length) vs b2:=by
 obtain⟨v,vs,b1,b2,e,eb,h1,h2⟩:=zZz h (by rw[zwJ]; simp) (by rw[zwJ]; simp)
 rcases zYz zwJ h1 with⟨c',e1,h3⟩|⟨len,cells,c',bs,b',e1,eb1,hm,hl,h3,h4⟩
 ·cases e1
  exact⟨_,vs,b1,b2,[],e,eb,⟨[],.inl ⟨rfl,rfl,rfl⟩,.nil⟩,h2⟩
 ·cases e1
  obtain⟨acts,es,rfl,rfl,hal⟩:=zQB _ _ _ _ h3
  obtain⟨-,rfl⟩:=zgs h4
  subst eb1
  rw[List.append_nil] at *
  refine⟨_,vs,_,b2,acts,e,eb,⟨es,.inr ⟨N,_,0,false,rfl,rfl,?_⟩,?_⟩,h2⟩
  ·rw[hl,zmK]
  ·exact hal.imp fun _ _ h=>h.app' (X:=[(N,⟨es.flatten,false⟩)])
theorem arg_wd{ts:List TypeId}{N:Nat}{av:List Value}{b:List (List Value)}(h:ArgS P (69::ts) N av b) :
  ∃ x0 x1 x2 x3 vs,av=agg [int x0,int x1,int x2,int x3]::vs∧ArgS P ts N vs b:=by
 obtain⟨cs,vs,b1,b2,rfl,rfl,h1,h2⟩:=zaA h (.inl ⟨_,Go.Proofs.Tryz.underlying69⟩)
 have h0:=zfg Go.Proofs.Tryz.underlying69 h1
 have h0:ShpL P [3,3,3,3] N cs b1:=h0
 obtain⟨x0,c1,rfl,_,h3⟩:=zfc (k:=.i64) Go.Proofs.Tryz.underlying3 h0
 obtain⟨x1,c2,rfl,_,h4⟩:=zfc (k:=.i64) Go.Proofs.Tryz.underlying3 h3
 obtain⟨x2,c3,rfl,_,h5⟩:=zfc (k:=.i64) Go.Proofs.Tryz.underlying3 h4
 obtain⟨x3,c4,rfl,_,h6⟩:=zfc (k:=.i64) Go.Proofs.Tryz.underlying3 h5
 obtain⟨rfl,rfl⟩:=zgs h6
 exact⟨x0,x1,x2,x3,vs,rfl,by simpa using h2⟩
end J
