/- texts of the proof, one behind the other -/
import Derived.Test.YtheklmekepeblaaGreatDoorUJ
set_option linter.unusedVariables false
set_option linter.unusedSimpArgs false
set_option linter.unusedSectionVars false
set_option maxRecDepth 100000
namespace J
open Go Go.Ab
variable{H:Heap}{Γ Γ0 Γ1 Γ2 Δ G L S T X F:List (Nat × Blk)}{K:VH}{v w x cv dv kv wv:Value}{xs ys zs b key wr:List Int}{i j p q o n k c p7 rA rB rC:Nat}{e er:Int}{cs cs':List Value}{l pr:List UInt8}{m sd:Mf}{t:Tm}{A B C:Ring}{s:Ck}
structure AgM (b:List Int) (N:Nat):Prop where
 r:zGa (mkF zPq 3 64 b)
 len:(mkF zPq 3 64 b).cks.length=N
 b1:1≤b.length
 b6:b.length≤600
 lo:∀ i,i < N→i * 64 < b.length
 hi:b.length≤N * 64
theorem AgM.span{N i:Nat}(h:AgM b N)(hi:i < N):zig (mkF zPq 3 64 b) (i:Int)=(((i * 64:Nat):Int),((min 64 (b.length - i * 64):Nat):Int)):=by
 have h1:=h.lo i hi
 unfold zig
 rw[if_neg (by rintro (h2|h2|h2); exact h2 h.r; omega; rw[h.len] at h2; omega)]
 show ((i:Int) * 64,min (64:Int) (((b.length:Nat):Int) - (i:Int) * 64))=_
 congr 1 <;> omega
theorem AgM.sha{N i:Nat}(h:AgM b N)(hi:i < N):(mkF zPq 3 64 b).cks.getD i []=J.sha ((b.drop (i * 64)).take 64):=zwv (C:=64) (by show i < (mkF zPq 3 64 b).cks.length; rw[h.len]; exact hi)
end J
set_option maxRecDepth 100000
namespace J
open Go Go.Ab
variable{H:Heap}{Γ Γ0 Γ1 Γ2 Δ G L S T X F:List (Nat × Blk)}{K:VH}{v w x cv dv kv wv:Value}{xs ys zs b key wr:List Int}{i j p q o n k c p7 rA rB rC N:Nat}{e er at':Int}{cs cs':List Value}{l pr all:List UInt8}{m sd:Mf}{t:Tm}{A B C:Ring}{s:Ck}
abbrev fr(i:Nat):Nat:=i * 64
abbrev nn(b:List Int)(i:Nat):Nat:=min 64 (b.length - i * 64)
end J
set_option maxRecDepth 100000
namespace J
open Go Go.Ab
variable{H:Heap}{Γ Γ0 Γ1 Γ2 Δ G L S T X F:List (Nat × Blk)}{K:VH}{v w x cv dv kv wv:Value}{xs ys zs b key wr:List Int}{i j p q o n k c p7 rA rB rC N:Nat}{e er a':Int}{cs cs':List Value}{l pr all:List UInt8}{m sd:Mf}{t:Tm}{A B C:Ring}{s:Ck}
end J
set_option maxRecDepth 100000
namespace J
open Go Go.Ab
variable{b key:List Int}{m sd:Mf}{t:Tm}{s:Ck}{w:List Sn}{hs:List (List Int)}{cl:List (List Int)}
def zCJ(i:Nat):List (List Int)→List Sn
 | []=>[]
 | c::r=>.body i c::zCJ (i+1) r
def zgL(sd:Mf)(cl:List (List Int)):Prop:=∀ i (h:i < cl.length),(cl[i].length:Int)=(zig sd i).2∧sha cl[i]=sd.cks.getD i []∧By cl[i]
def zSK(key:List Int)(sd:Mf)(h:List Int):Prop:=(zkc key sd).length≤h.length∧h.take (zkc key sd).length=zkc key sd
structure Went (hs:List (List Int)) (s:Ck) (tot:List Sn) (cl:List (List Int)):Prop where
 str:s.hs=some (cl.flatten,cl.length)
 r:zGa s.sd
 ok:s.sd.Ok
 adm:zLr s.sd s.t=0
 head:∃ h ∈ hs,zSK s.key s.sd h
 bods:zgL s.sd cl
 le:cl.length≤s.sd.cks.length
 dn:s.dn=true→cl.length=s.sd.cks.length∧sha cl.flatten=s.sd.dg
 tot:tot=.go ((zkc s.key s.sd).length:Int) s.sd::(zCJ 0 cl++if s.dn=true then [.fin] else [])
def Tot(hs:List (List Int))(s:Ck)(tot:List Sn):Prop:=(s.hs=none∧s.dn=false∧tot=[])∨∃ cl,Went hs s tot cl
def InH(hs:List (List Int))(s:Ck):Prop:=∀ p ∈ s.ain,By p.2∧p.2.length≤1000000∧(p.1=-1→p.2 ∈ hs)
theorem Tot.more{tot:List Sn}{x:List Int}(h:Tot hs s tot):Tot (hs++[x]) s tot:=by
 rcases h with h|⟨cl,h⟩
 ·exact .inl h
 ·obtain⟨y,hy,hg⟩:=h.head
  exact .inr ⟨cl,⟨h.str,h.r,h.ok,h.adm,⟨y,List.mem_append_left _ hy,hg⟩,h.bods,h.le,h.dn,h.tot⟩⟩
theorem Tot.pop{tot:List Sn}{r:List Sn}(h:Tot hs s tot):Tot hs (s.popO r) tot:=by
 rcases h with h|⟨cl,h⟩
 ·exact .inl h
 ·exact .inr ⟨cl,⟨h.str,h.r,h.ok,h.adm,h.head,h.bods,h.le,h.dn,h.tot⟩⟩
theorem Tot.popB{tot:List Sn}{r:List Sn}(h:Tot hs s tot):Tot hs (s.popB r) tot:=by
 rcases h with h|⟨cl,h⟩
 ·exact .inl h
 ·exact .inr ⟨cl,⟨h.str,h.r,h.ok,h.adm,h.head,h.bods,h.le,h.dn,h.tot⟩⟩
theorem Tot.push{tot:List Sn}{p:Int × List Int}(h:Tot hs s tot):Tot hs (s.push p) tot:=by
 rcases h with h|⟨cl,h⟩
 ·exact .inl h
 ·exact .inr ⟨cl,⟨h.str,h.r,h.ok,h.adm,h.head,h.bods,h.le,h.dn,h.tot⟩⟩
theorem InH.more{x:List Int}(h:InH hs s):InH (hs++[x]) s:=fun p hp=>⟨(h p hp).1,(h p hp).2.1,fun e=>List.mem_append_left _ ((h p hp).2.2 e)⟩
end J
set_option maxRecDepth 100000
namespace J
open Go Go.Ab
variable{H:Heap}{Γ Γ0 Γ1 Γ2 Δ G L S T X F F1 F2:List (Nat × Blk)}{K:VH}{v w' x cv dv kv kw av wv hv:Value}{xs ys zs b key wr:List Int}{i j p q o n k c p2 rA rB rC N:Nat}{e er x0 x1 x2:Int}{cs cs' new el:List Value}{l pr all:List UInt8}{m sd:Mf}{t:Tm}{A B C:Ring}{s:Ck}{w:List Sn}{hs:List (List Int)}{acts:List ActP}
def StR(h:List Int)(el:List Value):Prop:=el=[zMH h]∧By h
end J
set_option maxRecDepth 100000
namespace J
open Go Go.Ab
variable{H:Heap}{Γ Γ0 Γ1 Γ2 Δ G L S T X F F1 F2:List (Nat × Blk)}{K:VH}{v w' x cv dv kv kw av wv hv:Value}{xs ys zs b key wr:List Int}{i j p q o n k c p2 rA rB rC N:Nat}{e er x0 x1 x2:Int}{cs cs' new el:List Value}{l pr all:List UInt8}{m sd:Mf}{t:Tm}{A B C:Ring}{s:Ck}{w:List Sn}{hs:List (List Int)}{acts:List ActP}
end J
set_option maxRecDepth 100000
namespace J
open Go Go.Ab
variable{H:Heap}{Γ Γ0 Γ1 Γ2 Δ G L S T X F F1 F2:List (Nat × Blk)}{K:VH}{v w' x cv dv kv kw av wv hv tv:Value}{xs ys zs b key wr:List Int}{i j p q o n k c p2 p15 N:Nat}{e er x0 x1 x2:Int}{cs cs' new el wcs hcs:List Value}{l pr all:List UInt8}{m sd:Mf}{t:Tm}{A B C:Ring}{s:Ck}{w:List Sn}{hs:List (List Int)}{acts:List ActP}{cl:List (List Int)}
theorem Row.at'{α:Type}{size:Nat}{P:α→List Value→Prop}{l:List α}(h:Row size P v l cs)(hp:∀ a el,P a el→el.length=size)(hi:i < l.length):∃ el,P l[i] el∧(cs.drop (i * size)).take size=el:=by
 obtain⟨_,⟨es,rfl,h3⟩,_⟩:=h
 exact h3.get hp i hi
structure SuF (Γ:List (Nat × Blk)) (sd:Mf) (cl:List (List Int)) (w:List Sn) (pw p15:Nat) (cv:Value) (wcs:List Value):Prop where
 r:zGa sd
 ok:sd.Ok
 bods:zgL sd cl
 le:cl.length≤sd.cks.length
 al:∃ es,wcs=es.flatten∧Al (ToldR Γ) w es
 jw:∃ j:Nat,Γ[j]?=some (pw,⟨wcs,true⟩)
 j15:∃ j:Nat,Γ[j]?=some (p15,⟨mfC sd cv,true⟩)
 cv:RdH Γ cv sd.cks
theorem SuF.app{pw:Nat}(h:SuF Γ sd cl w pw p15 cv wcs):SuF (Γ++Δ) sd cl w pw p15 cv wcs:=by
 obtain⟨es,h1,h2⟩:=h.al
 obtain⟨j1,h3⟩:=h.jw
 obtain⟨j2,h4⟩:=h.j15
 exact⟨h.r,h.ok,h.bods,h.le,⟨es,h1,h2.imp fun _ _=>ToldR.app⟩,⟨j1,zCa h3⟩,⟨j2,zCa h4⟩,h.cv.app⟩
end J
set_option maxRecDepth 100000
namespace J
open Go Go.Ab
variable{H:Heap}{Γ Γ0 Γ1 Γ2 Δ G L S T X F F1 F2:List (Nat × Blk)}{v w' x cv dv kv kw av wv hv tv:Value}{xs ys zs b key wr:List Int}{i j p q o n k c p2 p15 N rA rB rC:Nat}{e er x0 x1 x2:Int}{cs cs' new el wcs hcs:List Value}{l pr all:List UInt8}{m sd:Mf}{t:Tm}{A B C:Ring}{s:Ck}{w:List Sn}{hs:List (List Int)}{acts:List ActP}{cl:List (List Int)}
end J
set_option maxRecDepth 100000
namespace J
open Go Go.Ab
variable{H:Heap}{G:List (Nat × Blk)}{kv kw av:Value}{key:List Int}{x0 x1 x2:Int}{t:Tm}{acts:List ActP}
end J
