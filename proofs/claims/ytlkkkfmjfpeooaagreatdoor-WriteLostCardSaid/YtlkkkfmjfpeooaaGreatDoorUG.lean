/- texts of the proof, one behind the other -/
import Derived.Lib.RuneBytes
import Derived.Shelf.Unicode.CaseLaid
import Derived.Test.YtlkkkfmjfpeooaaGreatDoorUF
set_option linter.unusedVariables false
set_option linter.unusedSimpArgs false
set_option linter.unusedSectionVars false
set_option maxRecDepth 100000
namespace J
open Go Go.Ab
variable{H:Heap}{Γ Γ0 Γ2 Δ G L:List (Nat × Blk)}{K:VH}{v w x cv dv:Value}{xs ys zs bs b key ms r:List Int}{j p q o n k mx:Nat}{e:Int}{cs cs':List Value}{l:List UInt8}{m a:Mf}{cks:List (List Int)}
end J
set_option maxRecDepth 100000
namespace J
open Go Go.Ab
variable{H:Heap}{Γ Γ0 Γ2 Δ G L:List (Nat × Blk)}{K:VH}{v w x cv dv iv:Value}{xs ys zs bs b key ms r image:List Int}{j p q o n k mx:Nat}{e cut:Int}{cs cs':List Value}{l:List UInt8}{m a:Mf}{cks:List (List Int)}
structure Mf.Wf (m:Mf):Prop where
 dl:m.dg.length=32
 db:By m.dg
 cl:∀ x ∈ m.cks,x.length=32
 cb:∀ x ∈ m.cks,By x
 ver:m.ver < 18446744073709551616
 sz:-9223372036854775808≤m.sz∧m.sz≤9223372036854775807
 ck:-9223372036854775808≤m.ck∧m.ck≤9223372036854775807
theorem Mf.Wf.ok(h:m.Wf)(h1:m.pr.length≤300)(h2:m.cks.length≤100):m.Ok:=⟨h.dl,h.db,h.cl,h.cb,h.ver,h.sz,h.ck,by omega,by omega⟩
end J
set_option maxRecDepth 100000
namespace J
open Go Go.Ab
variable{H:Heap}{Γ Γ0 Γ2 Δ G L:List (Nat × Blk)}{K:VH}{v w x cv dv iv:Value}{xs ys zs bs b key ms r image:List Int}{j p q o n k mx:Nat}{e cut:Int}{cs cs':List Value}{l:List UInt8}{m a:Mf}{cks:List (List Int)}
end J
set_option maxRecDepth 100000
namespace J
open Go Go.Ab
variable{H:Heap}{Γ Γ0 Γ2 Δ G L:List (Nat × Blk)}{K:VH}{v w x cv dv iv:Value}{xs ys zs:List Int}{m a:Mf}{cks:List (List Int)}
theorem zfg{P:Program}{t:TypeId}{fs:Array Field}(ht:P.underlying t=some (.struct fs)){ts:List TypeId}{N:Nat}{c:List Value}{b:List (List Value)}(h:ShpL P (t::ts) N c b):ShpL P (fs.toList.map (·.type)++ts) N c b:=by
 cases h with
 | struct hu h=>rw[ht] at hu; cases hu; exact h
 | array hu _=>rw[ht] at hu; cases hu
 | int v hu _ _=>rw[ht] at hu; cases hu
 | bool v hu _=>rw[ht] at hu; cases hu
 | str v hu _ _=>rw[ht] at hu; cases hu
 | slNil hu _=>rw[ht] at hu; cases hu
 | sl len hu _ _ _ _=>rw[ht] at hu; cases hu
theorem znr{P:Program}{t e:TypeId}{n:Nat}(ht:P.underlying t=some (.array n e)){ts:List TypeId}{N:Nat}{c:List Value}{b:List (List Value)}(h:ShpL P (t::ts) N c b):ShpL P (List.replicate n e++ts) N c b:=by
 cases h with
 | array hu h=>rw[ht] at hu; cases hu; exact h
 | struct hu _=>rw[ht] at hu; cases hu
 | int v hu _ _=>rw[ht] at hu; cases hu
 | bool v hu _=>rw[ht] at hu; cases hu
 | str v hu _ _=>rw[ht] at hu; cases hu
 | slNil hu _=>rw[ht] at hu; cases hu
 | sl len hu _ _ _ _=>rw[ht] at hu; cases hu
theorem zFD{P:Program}{t:TypeId}(ht:P.underlying t=some .string){ts:List TypeId}{N:Nat}{c:List Value}{b:List (List Value)}(h:ShpL P (t::ts) N c b):∃ (l:List UInt8) (c':List Value),c=str l::c'∧ShpL P ts N c' b:=by
 cases h with
 | str v hu _ h=>exact⟨v.data.toList,_,rfl,h⟩
 | array hu h=>rw[ht] at hu; cases hu
 | struct hu _=>rw[ht] at hu; cases hu
 | int v hu _ _=>rw[ht] at hu; cases hu
 | bool v hu _=>rw[ht] at hu; cases hu
 | slNil hu _=>rw[ht] at hu; cases hu
 | sl len hu _ _ _ _=>rw[ht] at hu; cases hu
theorem zWp{P:Program}{e:TypeId}{k:IntKind}(he:P.underlying e=some (.int k)){ts:List TypeId}:∀ (n N:Nat) (c:List Value) (b:List (List Value)),ShpL P (List.replicate n e++ts) N c b→∃ (xs:List Int) (c':List Value),xs.length=n∧c=xs.map (Value.int k)++c'∧(∀ x ∈ xs,(Lit.int k x).wf=true)∧ShpL P ts N c' b
 | 0,N,c,b,h=>⟨[],c,rfl,rfl,by simp,h⟩
 | n+1,N,c,b,h=>by
  obtain⟨x,c',rfl,hw,h1⟩:=zfc he (show ShpL P (e::(List.replicate n e++ts)) N c b from h)
  obtain⟨xs,c'',hl,rfl,hws,h2⟩:=zWp he n N _ _ h1
  exact⟨x::xs,c'',by simp[hl],rfl,fun y hy=>by rcases List.mem_cons.1 hy with rfl|hy; exact hw; exact hws y hy,h2⟩
theorem zgK:P.underlying 22=some (.slice 5):=by kernel_rfl
theorem zor:∀ (n N:Nat) (c:List Value) (b:List (List Value)),ShpL P (List.replicate n 28) N c b→b=[]∧∃ cks:List (List Int),c=hsC cks∧cks.length=n∧(∀ x ∈ cks,x.length=32)∧(∀ x ∈ cks,By x)
 | 0,N,c,b,h=>by cases h; exact⟨rfl,[],rfl,rfl,by simp,by simp⟩
 | n+1,N,c,b,h=>by
  have h1:=znr Go.Proofs.Tryz.underlying28 (show ShpL P (28::List.replicate n 28) N c b from h)
  obtain⟨xs,c',hl,rfl,hw,h2⟩:=zWp (k:=.u8) Go.Proofs.Tryz.underlying5 _ _ _ _ h1
  obtain⟨rfl,cks,rfl,hn,h3,h4⟩:=zor n N _ _ h2
  refine⟨rfl,xs::cks,rfl,by simp[hn],fun x hx=>?_,fun x hx=>?_⟩
  ·rcases List.mem_cons.1 hx with rfl|hx
   ·exact hl
   ·exact h3 x hx
  ·rcases List.mem_cons.1 hx with rfl|hx
   ·exact fun y hy=>wf_u8 (hw y hy)
   ·exact h4 x hx
theorem uHs:P.underlying 29=some (.slice 28):=by kernel_rfl
theorem zPH{ts:List TypeId}{N:Nat}{c:List Value}{b:List (List Value)}(h:ShpL P (31::ts) N c b) :
  ∃ (m:Mf) (cv:Value) (c':List Value) (b1 b2:List (List Value)),c=mfC m cv++c'∧b=b1++b2∧RdH (zvv N b1) cv m.cks∧m.Wf∧ShpL P ts (N+b1.length) c' b2:=by
 have h0:=zfg Go.Proofs.Tryz.underlying31 h
 have h0:ShpL P (9::26::3::3::28::29::ts) N c b:=h0
 obtain⟨pr,c1,rfl,h1⟩:=zFD Go.Proofs.Tryz.underlying9 h0
 obtain⟨ver,c2,rfl,w2,h2⟩:=zfc (k:=.u64) Go.Proofs.Tryz.underlying26 h1
 obtain⟨sz,c3,rfl,w3,h3⟩:=zfc (k:=.i64) Go.Proofs.Tryz.underlying3 h2
 obtain⟨ck,c4,rfl,w4,h4⟩:=zfc (k:=.i64) Go.Proofs.Tryz.underlying3 h3
 have h5:=znr Go.Proofs.Tryz.underlying28 h4
 obtain⟨dg,c5,hl,rfl,hw,h6⟩:=zWp (k:=.u8) Go.Proofs.Tryz.underlying5 _ _ _ _ h5
 have v2:=wf_u64 w2
 have wf:∀ cks:List (List Int),(∀ x ∈ cks,x.length=32)→(∀ x ∈ cks,By x)→(Mf.mk pr ver.toNat sz ck dg cks).Wf:=fun cks q1 q2=>⟨hl,fun x hx=>wf_u8 (hw x hx),q1,q2,by show ver.toNat < _; omega,wf_i64 w3,wf_i64 w4⟩
 have ev:Value.int .u64 ver=zsb .u64 ver.toNat:=zdA v2.1
 rcases zYz uHs h6 with⟨c',rfl,h7⟩|⟨len,cells,c',bs,b',rfl,rfl,hm,hln,h7,h8⟩
 ·refine⟨⟨pr,ver.toNat,sz,ck,dg,[]⟩,zBa,c',[],b,?_,rfl,RdH.nil,wf [] (by simp) (by simp),h7⟩
  unfold mfC
  rw[← ev]; simp[by8]
 ·obtain⟨rfl,cks,rfl,rfl,q1,q2⟩:=zor _ _ _ _ h7
  refine⟨⟨pr,ver.toNat,sz,ck,dg,cks⟩,sl N 0 cks.length (2 * P.cellsOf 28),c',[hsC cks],b',?_,rfl,.inr ⟨N,_,0,false,rfl,rfl⟩,wf cks q1 q2,h8⟩
  unfold mfC
  rw[← ev]; simp[by8]
end J
set_option maxRecDepth 100000
namespace J
open Go Go.Ab
variable{H:Heap}{Γ Γ0 Γ2 Δ G L:List (Nat × Blk)}{K:VH}{v w x:Value}{xs ys zs bs b key ms:List Int}{j p q o n k:Nat}{e:Int}{cs cs':List Value}{l m:List UInt8}{ds:List (List UInt8)}
theorem zdG{t:TypeId}{c:Bool}{a b:Nat}(hb:0 < b):(zma P .rem t c).f (int a) (int b)=some (int ((a % b:Nat):Int)):=zAg (k:=.i64) hb
theorem zXp{t:TypeId}{c:Bool}{a b:Nat}(h:a+b≤9223372036854775807):(zma P .add t c).f (int a) (int b)=some (int ((a+b:Nat):Int)):=by
 rw[zYa (by omega) (by omega)]; rfl
end J
set_option maxRecDepth 100000
namespace J
open Go Go.Ab
structure Tm where
 pr:List UInt8
 fl:Nat
 rm:Int
end J
