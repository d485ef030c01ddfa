/- texts of the proof, one behind the other -/
import Derived.Test.YtheklmekepeblaaGreatDoorUC
set_option linter.unusedSectionVars false
set_option linter.unusedVariables false
set_option linter.unusedSimpArgs false
set_option maxRecDepth 100000
namespace J
open Go Go.Ab
variable{H:Heap}{Γ Γ0 Γ2 Δ G:List (Nat × Blk)}{K:VH}{v w x:Value}{xs ys zs bs b data:List Int}{j p pd pz:Nat}{e:Int}{cs:List Value}
abbrev u64(n:Nat):Value:=zsb .u64 n
theorem zgo{t:TypeId}{c:Bool}{a b:Nat}(h:a+b < 18446744073709551616):(zpa P .add t c).f (u64 a) (u64 b)=some (u64 (a+b)):=by
 rw[zfd (k:=.u64) rfl,Nat.mod_eq_of_lt (show a+b < szU .u64 from h)]
theorem zct{t:TypeId}{c:Bool}{a b:Nat}(hb:0 < b)(ha:a < 9223372036854775807):(zpa P .quo t c).f (int a) (int b)=some (int ((a / b:Nat):Int)):=by
 rw[zyc _ _ rfl]
 show (match eqB (b:Int) 0 with|true=>none|false=>some (Value.int .i64 (zxc .i64 ((a:Int).tdiv b))))=_
 rw[zxg,decide_eq_false (by omega)]
 show some (Value.int .i64 (zxc .i64 ((a / b:Nat):Int)))=_
 have h1:((a / b:Nat):Int)≤(a:Int):=Int.ofNat_le.2 (Nat.div_le_self a b)
 have h2:(0:Int)≤((a / b:Nat):Int):=Int.natCast_nonneg _
 generalize ((a / b:Nat):Int)=q at *
 rw[ztn (by omega) (by omega)]
theorem zZc{a n:Nat}(ha:a < 4294967296)(hn:0 < n)(hn2:n < 32)(hk:K (u64 (rr a n)) H):wCall P zub [u64 a,u64 n] H K:=by
 apply zBq; unfold zyp
 have e64:szU .u64=18446744073709551616:=rfl
 have hp:2 ^ (32 - n)≤2 ^ 31:=Nat.pow_le_pow_right (by omega) (by omega)
 have hm:a * 2 ^ (32 - n) < 18446744073709551616:=Nat.lt_of_le_of_lt (Nat.mul_le_mul (Nat.le_of_lt ha) hp) (by decide)
 have hd:a / 2 ^ n < 4294967296:=Nat.lt_of_le_of_lt (Nat.div_le_self _ _) ha
 refine zaa (zEf (k:=.u64) rfl (show n≤64 by omega)) ?_
 refine zaa (v:=u64 (32 - n)) (by rw[show (Value.int .u64 32)=zsb .u64 32 from rfl,zAs rfl (by omega) (by decide)]) ?_
 refine zaa (zLj (k:=.u64) rfl (show 32 - n≤64 by omega)) ?_
 rw[Nat.mod_eq_of_lt (show a * 2 ^ (32 - n) < szU .u64 from hm)]
 refine zaa (zNk (k:=.u64) rfl (show _ < 18446744073709551616 by omega) hm) ?_
 refine zaa (zDf (k:=.u64) (b:=4294967296) (by decide)) ?_
 have e:(a / 2 ^ n ||| a * 2 ^ (32 - n)) % 4294967296=rr a n:=by
  unfold rr
  rw[show (4294967296:Nat)=2 ^ 32 from rfl,Nat.or_mod_two_pow,Nat.mod_eq_of_lt (show a / 2 ^ n < 2 ^ 32 from hd)]
 rw[e]; exact hk
def wM(w:List Nat)(n:Nat):List Value:=(w.map fun (n:Nat)=>u64 n)++u64 n::List.replicate (63 - w.length) (u64 0)
def wL(w:List Nat):List Value:=(w.map fun (n:Nat)=>u64 n)++List.replicate (64 - w.length) (u64 0)
theorem ziF{w:List Nat}{n:Nat}(h:w.length≤63):(wM w n).length=64:=by simp[wM]; omega
theorem zIB{w:List Nat}(h:w.length≤63):wM w 0=wL w:=by
 unfold wM wL
 obtain⟨m,hm⟩:∃ m,64 - w.length=m+1:=⟨63 - w.length,by omega⟩
 rw[hm,List.replicate_succ,show 63 - w.length=m by omega]
theorem zJB{w:List Nat}{n:Nat}(h:w.length≤63):wM w n=wL (w++[n]):=by
 unfold wM wL
 rw[List.length_append,show 64 - (w.length+[n].length)=63 - w.length by show 64 - (w.length+1)=_; omega]
 simp
theorem zhK{w:List Nat}{n:Nat}:(wM w n)[w.length]?=some (u64 n):=by
 unfold wM
 rw[List.getElem?_append_right (by simp)]
 simp
theorem zjF{w:List Nat}{n n':Nat}:(wM w n).set w.length (u64 n')=wM w n':=by
 unfold wM
 rw[List.set_append_right _ _ (by simp)]
 simp
theorem zJI{w:List Nat}{i:Nat}(h:i < w.length):(wL w)[i]?=some (u64 (w.getD i 0)):=by
 unfold wL
 rw[List.getElem?_append_left (by simpa using h)]
 simp[h]
theorem zSu{w:List Nat}:(wL w).all zab=true:=by simp[wL,zab,zie]
def zTu(b:List Int)(t:Nat):Nat→Nat
 | 0=>0
 | y+1=>256 * zTu b t y+(b.getD (4 * t+y) 0).toNat
theorem zOG{b:List Int}{t:Nat}:zTu b t 4=zLu b t:=by
 show 256 * (256 * (256 * (256 * 0+(b.getD (4 * t+0) 0).toNat)+(b.getD (4 * t+1) 0).toNat)+(b.getD (4 * t+2) 0).toNat)+(b.getD (4 * t+3) 0).toNat=_
 unfold zLu
 rw[Nat.add_zero]
 omega
theorem zPx{b:List Int}(h:∀ x ∈ b,0≤x∧x≤255)(t:Nat):∀ y,zTu b t y < 256 ^ y
 | 0=>Nat.zero_lt_one
 | y+1=>by
  show 256 * zTu b t y+_ < 256 ^ (y+1)
  have h1:=zPx h t y
  have h2:=zrd h (4 * t+y)
  rw[Nat.pow_succ]
  omega
theorem znE{m i:Nat}(h:i < 64):((data.drop (64 * m)).take 64).getD i 0=data.getD (64 * m+i) 0:=by
 rw[List.getD_eq_getElem?_getD,List.getD_eq_getElem?_getD,List.getElem?_take_of_lt h,List.getElem?_drop]
theorem zoL{p2 p7 p8 p10 m t:Nat}{ws:List Nat}{Qx:LX}{Qr:LN}(hv:RdB Γ v data)(hb:∀ x ∈ data,0≤x∧x≤255)(hm:64 * m+64≤data.length)(hl:data.length≤1000000000)(ht:t < 16)(hw:ws.length=t)
  (hO:St H (Γ++[(p10,⟨wL ws,true⟩)]))
  (hk:∀ H',St H' (Γ++[(p10,⟨wL (ws++[zLu ((data.drop (64 * m)).take 64) t]),true⟩)])→Qx 8 [ptr p2 0,v,ptr p7 0,ptr p8 0,int ((64 * m:Nat):Int),ptr p10 0,int t] H') :
  zHb P true 252 zhj 3980 [ptr p2 0,v,ptr p7 0,ptr p8 0,int ((64 * m:Nat):Int),ptr p10 0,int t,int 0] H Qx Qr:=by
 have hbb:∀ x ∈ (data.drop (64 * m)).take 64,0≤x∧x≤255:=fun x hx=>hb x (List.mem_of_mem_drop (List.mem_of_mem_take hx))
 rw[← zIB (by omega)] at hO
 refine zXn (fun k l' H'=>∃ (y:Nat),y≤4∧k=4 - y∧l'=[ptr p2 0,v,ptr p7 0,ptr p8 0,int ((64 * m:Nat):Int),ptr p10 0,int t,int y]∧St H' (Γ++[(p10,⟨wM ws (zTu ((data.drop (64 * m)).take 64) t y),true⟩)])) _ _ ?_ 4 _ _ ⟨0,by omega,rfl,rfl,hO⟩
 clear hO
 rintro k l' H ⟨y,hy,rfl,rfl,hO⟩
 unfold zBn
 try simp only[zia,zja]
 refine zaa zMa ?_
 refine zma (fun h=>?_) (fun h=>?_)
 ·have hy4:y < 4:=by omega
  have hp:=zPx hbb t y
  have hp3:256 ^ y≤256 ^ 3:=Nat.pow_le_pow_right (by omega) (by omega)
  have hp4:(256:Nat) ^ 3=16777216:=rfl
  have g:=zrd hb (64 * m+(4 * t+y))
  refine zaa (zta (by omega) (by omega)) ?_
  rw[Int.toNat_natCast]
  refine zoa hO (Γ.length+0) (zwa rfl) (v:=u64 (zTu ((data.drop (64 * m)).take 64) t y)) (by rw[show 0+t * 1=ws.length by omega]; exact zhK) ?_
  refine zaa (v:=u64 (256 * zTu ((data.drop (64 * m)).take 64) t y)) (by
   rw[show (Value.int .u64 256)=zsb .u64 256 from rfl,zwl (k:=.u64) rfl,Nat.mod_eq_of_lt (show _ < szU .u64 from (show _ < 18446744073709551616 by omega))]) ?_
  refine zaa (v:=int ((4 * t:Nat):Int)) (by rw[zBg (by omega) (by omega)]; congr 2 <;> omega) ?_
  refine zaa (v:=int ((64 * m+4 * t:Nat):Int)) (by rw[zLc (by omega) (by omega)]; congr 2 <;> omega) ?_
  refine zaa (v:=int ((64 * m+(4 * t+y):Nat):Int)) (by rw[zLc (by omega) (by omega)]; congr 2 <;> omega) ?_
  refine zMq hO hv.app hb rfl (by omega) ?_
  refine zva (cvU (k':=.u64) rfl) ?_
  rw[Nat.mod_eq_of_lt (show (data.getD (64 * m+(4 * t+y)) 0).toNat < szU .u64 from (show _ < 18446744073709551616 by omega))]
  refine zaa (zgo (by omega)) ?_
  refine zaa (zta (by omega) (by omega)) ?_
  rw[Int.toNat_natCast]
  refine zNa hO (Γ.length+0) (zwa rfl) rfl (by rw[ziF (by omega)]; omega) (show _=wM ws (zTu ((data.drop (64 * m)).take 64) t (y+1)) from ?_) ?_
  ·rw[show 0+t * 1=ws.length by omega,zjF]
   show _=wM ws (256 * _+_)
   rw[znE (by omega)]
  clear hO
  intro H hO
  replace hO:=hO.set_r
  repeat (first|refine oi ?_|refine ow ?_|refine wy ?_|refine wn ?_|refine wt ?_|refine wf' ?_|refine cy ?_|refine cn ?_)
  exact⟨4 - (y+1),by omega,y+1,by omega,rfl,rfl,hO⟩
 ·have hy:y=4:=by omega
  subst hy
  rw[zOG,zJB (by omega)] at hO
  exact hk H hO
theorem zKI{x a b:Nat}:zqg x [a,b]=rr x a ^^^ rr x b:=by
 show (0 ^^^ rr x a) ^^^ rr x b=_
 rw[Nat.zero_xor]
theorem zLI{x a b c:Nat}:zqg x [a,b,c]=(rr x a ^^^ rr x b) ^^^ rr x c:=by
 show ((0 ^^^ rr x a) ^^^ rr x b) ^^^ rr x c=_
 rw[Nat.zero_xor]
theorem zCk{a:Nat}(h:a < 4294967296):a < szU .u64:=Nat.lt_trans h (by decide)
set_option maxHeartbeats 2000000 in
theorem zpL{p2 p7 p8 p10 m:Nat}{Qx:LX}{Qr:LN}(hv:RdB Γ v data)(hb:∀ x ∈ data,0≤x∧x≤255)(hm:64 * m+64≤data.length)(hl:data.length≤1000000000)
  (hO:St H (Γ++[(p10,⟨wL [],true⟩)]))
  (hk:∀ H',St H' (Γ++[(p10,⟨wL (wUp ((data.drop (64 * m)).take 64) 64),true⟩)])→Qx 6 [ptr p2 0,v,ptr p7 0,ptr p8 0,int ((64 * m:Nat):Int),ptr p10 0] H') :
  zHb P true 252 zgj 1932 [ptr p2 0,v,ptr p7 0,ptr p8 0,int ((64 * m:Nat):Int),ptr p10 0,int 0] H Qx Qr:=by
 have hbb:∀ x ∈ (data.drop (64 * m)).take 64,0≤x∧x≤255:=fun x hx=>hb x (List.mem_of_mem_drop (List.mem_of_mem_take hx))
 refine zUn (fun k l' H'=>∃ (y:Nat),y≤64∧k=64 - y∧l'=[ptr p2 0,v,ptr p7 0,ptr p8 0,int ((64 * m:Nat):Int),ptr p10 0,int y]∧St H' (Γ++[(p10,⟨wL (wUp ((data.drop (64 * m)).take 64) y),true⟩)])) _ _ ?_ 64 _ _ ⟨0,by omega,rfl,rfl,hO⟩
 clear hO
 rintro k l' H ⟨y,hy,rfl,rfl,hO⟩
 unfold zyn
 try simp only[zia,zja]
 have hwl:=zLp (b:=(data.drop (64 * m)).take 64) y
 have es:wUp ((data.drop (64 * m)).take 64) (y+1)=wUp ((data.drop (64 * m)).take 64) y++[zam ((data.drop (64 * m)).take 64) (wUp ((data.drop (64 * m)).take 64) y) y]:=rfl
 have hlt:∀ i,(wUp ((data.drop (64 * m)).take 64) y).getD i 0 < 4294967296:=getD_lt (zNu hbb y)
 refine zaa zMa ?_
 refine zma (fun h=>?_) (fun h=>?_)
 ·refine zaa zMa ?_
  refine zma (fun h16=>?_) (fun h16=>?_)
  ·refine zoL hv hb hm hl (by omega) hwl hO ?_
   clear hO
   intro H hO
   refine zZa rfl ?_
   try simp only[zia,zja]
   repeat (first|refine oi ?_|refine ow ?_|refine wy ?_|refine wn ?_|refine wt ?_|refine wf' ?_|refine cy ?_|refine cn ?_)
   refine⟨64 - (y+1),by omega,y+1,by omega,rfl,rfl,?_⟩
   rw[es,show zam ((data.drop (64 * m)).take 64) (wUp ((data.drop (64 * m)).take 64) y) y=zLu ((data.drop (64 * m)).take 64) y by unfold zam; rw[if_pos (by omega)]]
   exact hO
  ·generalize hws:wUp ((data.drop (64 * m)).take 64) y=ws at *
   have ld:∀ {i:Nat} {K:VH},i < y→K (u64 (ws.getD i 0)) H→opW (zda (ptr p10 (0+i * 1)) H) K:=fun {i K} hi hk=>zoa hO (Γ.length+0) (zwa rfl) (v:=u64 (ws.getD i 0)) (by rw[show 0+i * 1=i by omega]; exact zJI (by omega)) hk
   have sm:∀ {o:Nat},zSa (zRa H H) (zBa [ptr p10 o]):=zcb hO (Γ.length+0) (zwa rfl) hO (Γ.length+0) (zwa rfl) zSu
   refine zaa (zBb (by omega) (by omega)) ?_
   refine zaa (zta (by omega) (by omega)) ?_
   rw[show ((y:Int) - 15).toNat=y - 15 by omega]
   refine ld (by omega) ?_
   refine zaa (zBb (by omega) (by omega)) ?_
   refine zaa (zta (by omega) (by omega)) ?_
   rw[show ((y:Int) - 2).toNat=y - 2 by omega]
   refine ld (by omega) ?_
   refine zaa (zBb (by omega) (by omega)) ?_
   refine zaa (zta (by omega) (by omega)) ?_
   rw[show ((y:Int) - 16).toNat=y - 16 by omega]
   refine ld (by omega) ?_
   refine zZc (n:=7) (hlt _) (by omega) (by omega) ?_
   refine⟨sm,?_⟩
   refine zZc (n:=18) (hlt _) (by omega) (by omega) ?_
   refine⟨sm,?_⟩
   have b1:=zfo (n:=7) (hlt (y - 15))
   have b2:=zfo (n:=18) (hlt (y - 15))
   have b3:=zfo (n:=17) (hlt (y - 2))
   have b4:=zfo (n:=19) (hlt (y - 2))
   have b5:ws.getD (y - 15) 0 / 2 ^ 3 < 4294967296:=Nat.lt_of_le_of_lt (Nat.div_le_self _ _) (hlt _)
   have b6:ws.getD (y - 2) 0 / 2 ^ 10 < 4294967296:=Nat.lt_of_le_of_lt (Nat.div_le_self _ _) (hlt _)
   refine zaa (zQb (k:=.u64) rfl (zCk b1) (zCk b2)) ?_
   refine zaa (zEf (k:=.u64) (n:=3) rfl (by decide)) ?_
   have b7:=Nat.xor_lt_two_pow (n:=32) b1 b2
   refine zaa (zQb (k:=.u64) rfl (zCk b7) (zCk b5)) ?_
   have b8:=Nat.xor_lt_two_pow (n:=32) b7 b5
   have c1:=hlt (y - 16)
   have c2:=hlt (y - 7)
   refine zaa (zgo (by omega)) ?_
   refine zaa (zBb (by omega) (by omega)) ?_
   refine zaa (zta (by omega) (by omega)) ?_
   rw[show ((y:Int) - 7).toNat=y - 7 by omega]
   refine ld (by omega) ?_
   refine⟨sm,sm,?_⟩
   refine zaa (zgo (by omega)) ?_
   refine zZc (n:=17) (hlt _) (by omega) (by omega) ?_
   refine⟨sm,sm,?_⟩
   refine zZc (n:=19) (hlt _) (by omega) (by omega) ?_
   refine⟨sm,sm,?_⟩
   refine zaa (zQb (k:=.u64) rfl (zCk b3) (zCk b4)) ?_
   refine zaa (zEf (k:=.u64) (n:=10) rfl (by decide)) ?_
   have b9:=Nat.xor_lt_two_pow (n:=32) b3 b4
   refine zaa (zQb (k:=.u64) rfl (zCk b9) (zCk b6)) ?_
   have b10:=Nat.xor_lt_two_pow (n:=32) b9 b6
   refine zaa (zgo (by omega)) ?_
   refine zaa (zDf (k:=.u64) (b:=4294967296) (by decide)) ?_
   refine zaa (zta (by omega) (by omega)) ?_
   rw[Int.toNat_natCast]
   rw[← zIB (by omega)] at hO
   refine zNa hO (Γ.length+0) (zwa rfl) rfl (by rw[ziF (by omega)]; omega) (show _=wL (ws++[zam ((data.drop (64 * m)).take 64) ws y]) from ?_) ?_
   ·rw[show 0+y * 1=ws.length by omega,zjF,zJB (by omega)]
    unfold zam
    rw[if_neg (by omega),zKI,zKI]
   clear hO
   intro H hO
   replace hO:=hO.set_r
   rw[← es] at hO
   repeat (first|refine oi ?_|refine ow ?_|refine wy ?_|refine wn ?_|refine wt ?_|refine wf' ?_|refine cy ?_|refine cn ?_)
   exact⟨64 - (y+1),by omega,y+1,by omega,rfl,rfl,hO⟩
 ·have hy:y=64:=by omega
  subst hy
  exact hk H hO
end J
set_option maxRecDepth 100000
namespace J
open Go Go.Ab
variable{H:Heap}{Γ Γ0 Γ2 Δ G:List (Nat × Blk)}{K:VH}{v w x:Value}{xs ys zs bs b data:List Int}{j p pd pz:Nat}{e:Int}{cs:List Value}
def l8(x:W8):List Value:=x.l.map fun (n:Nat)=>u64 n
theorem zKB(x:W8):(l8 x).all zab=true:=rfl
theorem b8(a b c d e f g h:Int):(zAa P 114).f [(0,.int .u64 a),(1,.int .u64 b),(2,.int .u64 c),(3,.int .u64 d),(4,.int .u64 e),(5,.int .u64 f),(6,.int .u64 g),(7,.int .u64 h)]=some (agg [.int .u64 a,.int .u64 b,.int .u64 c,.int .u64 d,.int .u64 e,.int .u64 f,.int .u64 g,.int .u64 h]):=by kernel_rfl
theorem ziK{i:Nat}(h:i < 64):(zfk.map fun (n:Nat)=>u64 n)[i]?=some (u64 (zfk.getD i 0)):=by
 have hl:zfk.length=64:=rfl
 simp[hl,h]
theorem zLB:(zfk.map fun (n:Nat)=>u64 n).all zab=true:=by simp[zab,zie]
theorem zPG{t:TypeId}{c:Bool}{a:Nat}:(zpa P .rem t c).f (u64 a) (.int .u64 4294967296)=some (u64 (a % 4294967296)):=zDf (k:=.u64) (b:=4294967296) (by decide)
set_option maxHeartbeats 4000000 in
theorem zqL{p2 p7 p8 p10 p15 at':Nat}{s:W8}{ws:List Nat}{Qx:LX}{Qr:LN}(hs:s.Ok)(hw:∀ x ∈ ws,x < 4294967296)(hwl:ws.length=64){j8 j10:Nat}(h8:Γ[j8]?=some (p8,⟨zfk.map fun (n:Nat)=>u64 n,true⟩))(h10:Γ[j10]?=some (p10,⟨wL ws,true⟩))
  (hO:St H (Γ++[(p15,⟨l8 s,true⟩)]))
  (hk:∀ H',St H' (Γ++[(p15,⟨l8 (ztw ws s 64),true⟩)])→Qx 10 [ptr p2 0,v,ptr p7 0,ptr p8 0,int at',ptr p15 0] H') :
  zHb P true 252 zij 33676 [ptr p2 0,v,ptr p7 0,ptr p8 0,int at',ptr p10 0,ptr p15 0,int 0] H Qx Qr:=by
 refine zVn (fun k l' H'=>∃ (y:Nat),y≤64∧k=64 - y∧l'=[ptr p2 0,v,ptr p7 0,ptr p8 0,int at',ptr p10 0,ptr p15 0,int y]∧St H' (Γ++[(p15,⟨l8 (ztw ws s y),true⟩)])) _ _ ?_ 64 _ _ ⟨0,by omega,rfl,rfl,hO⟩
 clear hO
 rintro k l' H ⟨y,hy,rfl,rfl,hO⟩
 unfold zzn
 try simp only[zia,zja]
 refine zaa zMa ?_
 refine zma (fun h=>?_) (fun h=>?_)
 rotate_left
 ·have ey:y=64:=by omega
  subst ey
  exact hk _ hO
 have hxo:=zKp (w:=ws) hs y
 have ew:ws.getD y 0 < 4294967296:=getD_lt hw y
 have ek:=zfK y
 have er:ztw ws s (y+1)=zvI (ztw ws s y) (zfk.getD y 0) (ws.getD y 0):=rfl
 generalize ztw ws s y=x at *
 have i15:(Γ++[(p15,(⟨l8 x,true⟩:Blk))])[Γ.length+0]?=some (p15,⟨l8 x,true⟩):=zwa rfl
 have sm:∀ {o:Nat},zSa (zRa H H) (zBa [ptr p15 o]):=zcb hO _ i15 hO _ i15 (zKB x)
 have sm8:∀ {o:Nat},zSa (zRa H H) (zBa [ptr p8 o]):=zcb hO _ (zCa h8) hO _ (zCa h8) zLB
 have sm10:∀ {o:Nat},zSa (zRa H H) (zBa [ptr p10 o]):=zcb hO _ (zCa h10) hO _ (zCa h10) zSu
 have ix:∀ {i:Int} {h:0≤i} {h':i < 8},True:=trivial
 refine zaa (zta (by omega) (by omega)) ?_
 refine zoa hO _ i15 (v:=u64 x.e) rfl ?_
 refine zaa (zta (by omega) (by omega)) ?_
 refine zoa hO _ i15 (v:=u64 x.f) rfl ?_
 refine zaa (zke (k:=.u64) rfl (zCk hxo.e) (zCk hxo.f)) ?_
 refine zaa (v:=u64 (4294967295 - x.e)) (by
  have:=hxo.e
  rw[show (Value.int .u64 4294967295)=zsb .u64 4294967295 from rfl,zAs rfl (by omega) (by decide)]) ?_
 refine zaa (zta (by omega) (by omega)) ?_
 refine zoa hO _ i15 (v:=u64 x.g) rfl ?_
 refine zaa (zke (k:=.u64) rfl (zCk (by omega)) (zCk hxo.g)) ?_
 refine zaa (zQb (k:=.u64) rfl (zCk (Nat.and_lt_two_pow (n:=32) _ hxo.f)) (zCk (Nat.and_lt_two_pow (n:=32) _ hxo.g))) ?_
 have hch:chF x.e x.f x.g < 4294967296:=zwI hxo.e hxo.f hxo.g
 rw[show (x.e &&& x.f) ^^^ ((4294967295 - x.e) &&& x.g)=chF x.e x.f x.g from rfl]
 refine zaa (zta (by omega) (by omega)) ?_
 refine zoa hO _ i15 (v:=u64 x.h) rfl ?_
 have b6:=zfo (n:=6) hxo.e
 have b11:=zfo (n:=11) hxo.e
 have b25:=zfo (n:=25) hxo.e
 have b2:=zfo (n:=2) hxo.a
 have b13:=zfo (n:=13) hxo.a
 have b22:=zfo (n:=22) hxo.a
 refine zZc (n:=6) hxo.e (by omega) (by omega) ?_
 refine⟨sm,?_⟩
 refine zZc (n:=11) hxo.e (by omega) (by omega) ?_
 refine⟨sm,?_⟩
 refine zaa (zQb (k:=.u64) rfl (zCk b6) (zCk b11)) ?_
 refine zZc (n:=25) hxo.e (by omega) (by omega) ?_
 refine⟨sm,?_⟩
 refine zaa (zQb (k:=.u64) rfl (zCk (Nat.xor_lt_two_pow (n:=32) b6 b11)) (zCk b25)) ?_
 rw[← zLI]
 have hS1:zqg x.e [6,11,25] < 4294967296:=zbm hxo.e
 have hh:=hxo.h
 refine zaa (zgo (by omega)) ?_
 refine zaa (zgo (by omega)) ?_
 refine zaa (zta (by omega) (by omega)) ?_
 rw[Int.toNat_natCast]
 refine zoa hO _ (zCa h8) (v:=u64 (zfk.getD y 0)) (by rw[show 0+y * 1=y by omega]; exact ziK (by omega)) ?_
 refine⟨sm8,sm8,sm8,?_⟩
 refine zaa (zgo (by omega)) ?_
 refine zaa (zta (by omega) (by omega)) ?_
 rw[Int.toNat_natCast]
 refine zoa hO _ (zCa h10) (v:=u64 (ws.getD y 0)) (by rw[show 0+y * 1=y by omega]; exact zJI (by omega)) ?_
 refine⟨sm10,sm10,sm10,?_⟩
 refine zaa (zgo (by omega)) ?_
 refine zaa (zta (by omega) (by omega)) ?_
 refine zoa hO _ i15 (v:=u64 x.a) rfl ?_
 refine zaa (zta (by omega) (by omega)) ?_
 refine zoa hO _ i15 (v:=u64 x.b) rfl ?_
 refine zaa (zke (k:=.u64) rfl (zCk hxo.a) (zCk hxo.b)) ?_
 refine zaa (zta (by omega) (by omega)) ?_
 refine zoa hO _ i15 (v:=u64 x.a) rfl ?_
 refine zaa (zta (by omega) (by omega)) ?_
 refine zoa hO _ i15 (v:=u64 x.c) rfl ?_
 refine zaa (zke (k:=.u64) rfl (zCk hxo.a) (zCk hxo.c)) ?_
 have ab:=Nat.and_lt_two_pow (n:=32) x.a hxo.b
 have ac:=Nat.and_lt_two_pow (n:=32) x.a hxo.c
 have bc:=Nat.and_lt_two_pow (n:=32) x.b hxo.c
 refine zaa (zQb (k:=.u64) rfl (zCk ab) (zCk ac)) ?_
 refine zaa (zta (by omega) (by omega)) ?_
 refine zoa hO _ i15 (v:=u64 x.b) rfl ?_
 refine zaa (zta (by omega) (by omega)) ?_
 refine zoa hO _ i15 (v:=u64 x.c) rfl ?_
 refine zaa (zke (k:=.u64) rfl (zCk hxo.b) (zCk hxo.c)) ?_
 refine zaa (zQb (k:=.u64) rfl (zCk (Nat.xor_lt_two_pow (n:=32) ab ac)) (zCk bc)) ?_
 rw[show ((x.a &&& x.b) ^^^ (x.a &&& x.c)) ^^^ (x.b &&& x.c)=zxG x.a x.b x.c from rfl]
 have hmj:zxG x.a x.b x.c < 4294967296:=zAG hxo.b hxo.c
 refine zaa (zta (by omega) (by omega)) ?_
 refine zoa hO _ i15 (v:=u64 x.a) rfl ?_
 refine zZc (n:=2) hxo.a (by omega) (by omega) ?_
 refine zaa (zta (by omega) (by omega)) ?_
 refine zoa hO _ i15 (v:=u64 x.a) rfl ?_
 refine⟨sm,?_⟩
 refine zZc (n:=13) hxo.a (by omega) (by omega) ?_
 refine zaa (zQb (k:=.u64) rfl (zCk b2) (zCk b13)) ?_
 refine zaa (zta (by omega) (by omega)) ?_
 refine zoa hO _ i15 (v:=u64 x.a) rfl ?_
 refine⟨sm,sm,?_⟩
 refine zZc (n:=22) hxo.a (by omega) (by omega) ?_
 refine zaa (zQb (k:=.u64) rfl (zCk (Nat.xor_lt_two_pow (n:=32) b2 b13)) (zCk b22)) ?_
 rw[← zLI]
 have hS0:zqg x.a [2,13,22] < 4294967296:=zbm hxo.a
 have hd:=hxo.d
 refine zaa (zgo (by omega)) ?_
 refine zaa (zgo (by omega)) ?_
 refine zaa zPG ?_
 refine zaa (zta (by omega) (by omega)) ?_
 refine zoa hO _ i15 (v:=u64 x.a) rfl ?_
 refine zaa (zta (by omega) (by omega)) ?_
 refine zoa hO _ i15 (v:=u64 x.b) rfl ?_
 refine zaa (zta (by omega) (by omega)) ?_
 refine zoa hO _ i15 (v:=u64 x.c) rfl ?_
 refine zaa (zta (by omega) (by omega)) ?_
 refine zoa hO _ i15 (v:=u64 x.d) rfl ?_
 refine zaa (zgo (by omega)) ?_
 refine zaa zPG ?_
 refine zaa (zta (by omega) (by omega)) ?_
 refine zoa hO _ i15 (v:=u64 x.e) rfl ?_
 refine zaa (zta (by omega) (by omega)) ?_
 refine zoa hO _ i15 (v:=u64 x.f) rfl ?_
 refine zaa (zta (by omega) (by omega)) ?_
 refine zoa hO _ i15 (v:=u64 x.g) rfl ?_
 refine zaa (b8 _ _ _ _ _ _ _ _) ?_
 refine zya hO _ i15 rfl rfl rfl ?_
 clear hO sm sm8 sm10
 intro H hO
 replace hO:=hO.set_r
 have e1:(x.h+zqg x.e [6,11,25]+chF x.e x.f x.g+zfk.getD y 0+ws.getD y 0+(zqg x.a [2,13,22]+zxG x.a x.b x.c)) % 4294967296=(t1F x (zfk.getD y 0) (ws.getD y 0)+t2F x) % 4294967296:=by
  unfold t1F t2F
  rw[← Nat.add_mod]
 have e2:(x.d+(x.h+zqg x.e [6,11,25]+chF x.e x.f x.g+zfk.getD y 0+ws.getD y 0)) % 4294967296=(x.d+t1F x (zfk.getD y 0) (ws.getD y 0)) % 4294967296:=by
  unfold t1F
  rw[Nat.add_mod_mod]
 rw[e1,e2] at hO
 repeat (first|refine oi ?_|refine ow ?_|refine wy ?_|refine wn ?_|refine wt ?_|refine wf' ?_|refine cy ?_|refine cn ?_)
 refine⟨64 - (y+1),by omega,y+1,by omega,rfl,rfl,?_⟩
 rw[er]
 exact hO
end J
set_option maxRecDepth 100000
namespace J
open Go Go.Ab
variable{H:Heap}{Γ Γ0 Γ2 Δ G:List (Nat × Blk)}{K:VH}{v w x:Value}{xs ys zs bs b data:List Int}{j p pd pz:Nat}{e:Int}{cs:List Value}
theorem zrL:(zAa P 116).f []=some (agg (wL [])):=by kernel_rfl
theorem zQG:zc P 116=wL []:=by kernel_rfl
theorem zjK:zc P 114=List.replicate 8 (u64 0):=by kernel_rfl
theorem zZy(hO:St H Γ)(hk:∀ H',St H' Γ→K (agg (l8 zzG)) H'):wCall P zUh [] H K:=by
 apply zAq; unfold zwp
 rw[zjK]
 refine zeb hO ?_
 clear hO
 intro p H hO
 refine zaa (v:=agg (l8 zzG)) (by kernel_rfl) ?_
 refine zya hO (Γ.length+0) (zwa rfl) rfl rfl rfl ?_
 clear hO
 intro H hO
 replace hO:=hO.set_r
 refine zFa hO (Γ.length+0) (zwa rfl) rfl (by omega) ?_
 exact hk _ hO.left
theorem zyw(hO:St H Γ)(hk:∀ H',St H' Γ→K (agg (zfk.map fun (n:Nat)=>u64 n)) H'):wCall P zUg [] H K:=by
 apply zxp; unfold zDn
 rw[zQG]
 refine zeb hO ?_
 clear hO
 intro p H hO
 refine zaa (v:=agg (zfk.map fun (n:Nat)=>u64 n)) (by kernel_rfl) ?_
 refine zya hO (Γ.length+0) (zwa rfl) rfl rfl rfl ?_
 clear hO
 intro H hO
 replace hO:=hO.set_r
 refine zFa hO (Γ.length+0) (zwa rfl) rfl (by omega) ?_
 exact hk _ hO.left
theorem zMI{s:W8}(h:s.Ok):∀ x ∈ s.l,x < 4294967296:=by
 intro x hx
 simp only[W8.l,List.mem_cons,List.not_mem_nil,or_false] at hx
 rcases hx with rfl|rfl|rfl|rfl|rfl|rfl|rfl|rfl
 ·exact h.a
 ·exact h.b
 ·exact h.c
 ·exact h.d
 ·exact h.e
 ·exact h.f
 ·exact h.g
 ·exact h.h
theorem zsL{s R:W8}{p2 p7 p8 p15 at':Nat}{B:Blk}{T:List (Nat × Blk)}{Qx:LX}{Qr:LN}(hs:s.Ok)(hR:R.Ok)(i15:T[1]?=some (p15,⟨l8 R,true⟩))
  (hO:St H (Γ++([(p7,⟨l8 s,true⟩),(p8,B)]++T)))
  (hk:∀ H',St H' (Γ++([(p7,⟨l8 (zNH s R),true⟩),(p8,B)]++T))→Qx 12 [ptr p2 0,v,ptr p7 0,ptr p8 0,int at'] H') :
  zHb P true 252 zjj 908 [ptr p2 0,v,ptr p7 0,ptr p8 0,int at',ptr p15 0,int 0] H Qx Qr:=by
 refine zWn (fun k l' H'=>∃ (y:Nat),y≤8∧k=8 - y∧l'=[ptr p2 0,v,ptr p7 0,ptr p8 0,int at',ptr p15 0,int y]∧St H' (Γ++([(p7,⟨(zxw s.l R.l y).map fun (n:Nat)=>u64 n,true⟩),(p8,B)]++T))) _ _ ?_ 8 _ _ ⟨0,by omega,rfl,rfl,hO⟩
 clear hO
 rintro k l' H ⟨y,hy,rfl,rfl,hO⟩
 unfold zAn
 try simp only[zia,zja]
 have hls:s.l.length=8:=rfl
 have hlR:R.l.length=8:=rfl
 refine zaa zMa ?_
 refine zma (fun h=>?_) (fun h=>?_)
 ·have hy8:y < 8:=by omega
  have b1:s.l.getD y 0 < 4294967296:=getD_lt (zMI hs) y
  have b2:R.l.getD y 0 < 4294967296:=getD_lt (zMI hR) y
  have a1:((zxw s.l R.l y).map fun (n:Nat)=>u64 n)[0+y * 1]?=some (u64 (s.l.getD y 0)):=by
   rw[show 0+y * 1=y by omega,List.getElem?_map,zbt (by omega),if_neg (by omega)]; rfl
  have a2:(l8 R)[0+y * 1]?=some (u64 (R.l.getD y 0)):=by
   unfold l8
   rw[show 0+y * 1=y by omega,List.getElem?_map,List.getElem?_eq_getElem (by omega),List.getD_eq_getElem?_getD,List.getElem?_eq_getElem (by omega)]; rfl
  have a3:((zxw s.l R.l y).map fun (n:Nat)=>u64 n).set (0+y * 1) (u64 ((s.l.getD y 0+R.l.getD y 0) % 4294967296))=(zxw s.l R.l (y+1)).map fun (n:Nat)=>u64 n:=by
   rw[← zMx (by omega),List.map_set,show 0+y * 1=y by omega]
  refine zaa (zta (by omega) (by omega)) ?_
  rw[Int.toNat_natCast]
  refine zoa hO (Γ.length+0) (zwa rfl) a1 ?_
  refine zaa (zta (by omega) (by omega)) ?_
  rw[Int.toNat_natCast]
  refine zoa hO (Γ.length+(2+1)) (zwa (zwa (Γ:=[_,_]) i15)) a2 ?_
  refine zaa (zgo (by omega)) ?_
  refine zaa zPG ?_
  refine zaa (zta (by omega) (by omega)) ?_
  rw[Int.toNat_natCast]
  refine zNa hO (Γ.length+0) (zwa rfl) rfl (zGB a1) a3 ?_
  clear hO
  intro H hO
  replace hO:=hO.set_r
  repeat (first|refine oi ?_|refine ow ?_|refine wy ?_|refine wn ?_|refine wt ?_|refine wf' ?_|refine cy ?_|refine cn ?_)
  exact⟨_,by omega,y+1,by omega,rfl,rfl,hO⟩
 ·have ey:y=8:=by omega
  subst ey
  rw[zfF] at hO
  exact hk _ hO
theorem ztL{s:W8}{p2 p7 p23:Nat}{T:List (Nat × Blk)}{Qx:LX}{Qr:LN}(hs:s.Ok){j7:Nat}(h7:Γ[j7]?=some (p7,⟨l8 s,true⟩))(hO:St H (Γ++[(p23,⟨zoq [],true⟩)]))
  (hk:∀ H',St H' (Γ++[(p23,⟨by8 (zrg s),true⟩)])→Qx 14 [ptr p2 0,ptr p23 0] H') :
  zHb P true 252 zkj 8388612 [ptr p2 0,ptr p7 0,ptr p23 0,int 0] H Qx Qr:=by
 refine zTn (fun k l' H'=>∃ (y:Nat),y≤32∧k=32 - y∧l'=[ptr p2 0,ptr p7 0,ptr p23 0,int y]∧St H' (Γ++[(p23,⟨zoq ((zrg s).take y),true⟩)])) _ _ ?_ 32 _ _ ⟨0,by omega,rfl,rfl,hO⟩
 clear hO
 rintro k l' H ⟨y,hy,rfl,rfl,hO⟩
 unfold zxn
 try simp only[zia,zja]
 refine zaa zMa ?_
 refine zma (fun h=>?_) (fun h=>?_)
 ·have hlen:((zrg s).take y).length=y:=by rw[List.length_take,zDh]; omega
  have hm:y / 4 < 8:=by omega
  have hi:y % 4 < 4:=by omega
  have a2:(l8 s)[0+y / 4 * 1]?=some (u64 (s.l.getD (y / 4) 0)):=by
   have hlR:s.l.length=8:=rfl
   unfold l8
   rw[show 0+y / 4 * 1=y / 4 by omega,List.getElem?_map,List.getElem?_eq_getElem (by omega),List.getD_eq_getElem?_getD,List.getElem?_eq_getElem (by omega)]; rfl
  refine zaa (zct (b:=4) (by omega) (by omega)) ?_
  refine zaa (zta (by omega) (by omega)) ?_
  rw[Int.toNat_natCast]
  refine zoa hO j7 (zCa h7) a2 ?_
  refine zaa (v:=int ((y % 4:Nat):Int)) (zDf (k:=.i64) (b:=4) (by decide)) ?_
  refine zaa (v:=int ((8 * (y % 4):Nat):Int)) (by rw[zBg (by omega) (by omega)]; congr 2 <;> omega) ?_
  refine zaa (v:=int ((24 - 8 * (y % 4):Nat):Int)) (by rw[zBb (by omega) (by omega)]; congr 2 <;> omega) ?_
  refine zaa (zEf (k:=.u64) rfl (show 24 - 8 * (y % 4)≤64 by omega)) ?_
  refine zaa (zDf (k:=.u64) (b:=256) (by decide)) ?_
  refine zva (cvU (k':=.u8) rfl) ?_
  refine zaa (zta (by omega) (by omega)) ?_
  rw[Int.toNat_natCast]
  refine zNa hO (Γ.length+0) (zwa rfl) rfl (show 0+y * 1 < (zoq ((zrg s).take y)).length by rw[zNx (by omega)]; omega) (show _=zoq ((zrg s).take (y+1)) from ?_) ?_
  ·have h1:=hash_step (s:=s) hm hi
   rw[show 4 * (y / 4)+y % 4=y by omega] at h1
   rw[← h1,← zOx (by omega),hlen,show 0+y * 1=y by omega]
   rw[show szU .u8=256 from rfl,Nat.mod_mod]
  clear hO
  intro H hO
  replace hO:=hO.set_r
  repeat (first|refine oi ?_|refine ow ?_|refine wy ?_|refine wn ?_|refine wt ?_|refine wf' ?_|refine cy ?_|refine cn ?_)
  exact⟨32 - (y+1),by omega,y+1,by omega,rfl,rfl,hO⟩
 ·have hy:y=32:=by omega
  subst hy
  have e:zoq ((zrg s).take 32)=by8 (zrg s):=by
   rw[List.take_of_length_le (by rw[zDh]; omega)]
   unfold zoq
   rw[zDh,Nat.sub_self,List.replicate_zero,List.append_nil]
  rw[e] at hO
  exact hk H hO
theorem zuL{t0:Value}{p2:Nat}{Qx:LX}{Qr:LN}(hO:St H (Γ++zKa v cs))(hv:OwnB v (xs++[128]) cs)(hl:xs.length≤90000000)
  (hk:∀ H' v' cs',St H' (Γ++zKa v' cs')→OwnB v' (xs++[128]++List.replicate (zZm xs.length) 0) cs'→Qx 0 [t0,ptr p2 0,v'] H') :
  zHb P true 252 zdj 13 [t0,ptr p2 0,v] H Qx Qr:=by
 refine zQn (fun k l' H'=>∃ (y:Nat) (v:Value) (cs:List Value),y≤zZm xs.length∧k=zZm xs.length - y∧l'=[t0,ptr p2 0,v]∧St H' (Γ++zKa v cs)∧OwnB v (xs++[128]++List.replicate y 0) cs) _ _ ?_ (zZm xs.length) _ _ ⟨0,v,cs,by omega,rfl,rfl,hO,by rw[List.replicate_zero,List.append_nil]; exact hv⟩
 clear hO hv
 rintro k l' H ⟨y,v,cs,hy,rfl,rfl,hO,hv⟩
 unfold zun
 try simp only[zia,zja]
 have hlen:(xs++[128]++List.replicate y (0:Int)).length=xs.length+1+y:=by simp; omega
 have hpz:zZm xs.length < 64:=Nat.mod_lt _ (by decide)
 refine zva hv.lenSl ?_
 refine zaa (v:=int (((xs++[128]++List.replicate y (0:Int)).length % 64:Nat):Int)) (zDf (k:=.i64) (b:=64) (by decide)) ?_
 rw[hlen]
 refine zaa zQa ?_
 refine zma (fun h=>?_) (fun h=>?_)
 ·have hlt:y < zZm xs.length:=by
   unfold zZm at hy ⊢
   omega
  refine zDa hO (zOH 0 _) ?_
  clear hO
  intro q H hO
  refine zwd (ys:=[0]) hO hv (by rw[hlen]; simp; omega) rfl (.inr rfl) ?_
  clear hO hv
  intro H v cs hO hv
  rw[List.append_assoc _ (List.replicate y 0),← List.replicate_succ'] at hv
  exact⟨zZm xs.length - (y+1),by omega,y+1,v,cs,by omega,rfl,rfl,hO,hv⟩
 ·have hy:y=zZm xs.length:=by
   unfold zZm at hy ⊢
   omega
  subst hy
  exact hk H v cs hO hv
theorem zNI:∀ y,y < 8→72057594037927936 / 256 ^ y=2 ^ (56 - 8 * y):=by decide
theorem zvL{p2 n:Nat}{Qx:LX}{Qr:LN}(hO:St H (Γ++zKa v cs))(hv:OwnB v zs cs)(hl:zs.length≤95000000)(hn:n < 18446744073709551616)
  (hk:∀ H' v' cs',St H' (Γ++zKa v' cs')→OwnB v' (zs++be8 n) cs'→Qx 2 [ptr p2 0,v'] H') :
  zHb P true 252 zej 12 [ptr p2 0,v,zsb .u64 n,.int .u64 72057594037927936,int 0] H Qx Qr:=by
 refine zRn (fun k l' H'=>∃ (y:Nat) (v:Value) (cs:List Value),y≤8∧k=8 - y∧l'=[ptr p2 0,v,zsb .u64 n,zsb .u64 (72057594037927936 / 256 ^ y),int y]∧St H' (Γ++zKa v cs)∧OwnB v (zs++(be8 n).take y) cs) _ _ ?_ 8 _ _ ⟨0,v,cs,by omega,rfl,rfl,hO,by rw[List.take_zero,List.append_nil]; exact hv⟩
 clear hO hv
 rintro k l' H ⟨y,v,cs,hy,rfl,rfl,hO,hv⟩
 unfold zvn
 try simp only[zia,zja]
 refine zaa zMa ?_
 refine zma (fun h=>?_) (fun h=>?_)
 ·have hy8:y < 8:=by omega
  have hf:=zNI y hy8
  have hp:0 < 2 ^ (56 - 8 * y):=Nat.two_pow_pos _
  refine zaa (zBs (k:=.u64) rfl (by rw[hf]; exact hp) hn) ?_
  rw[hf]
  refine zaa (zDf (k:=.u64) (b:=256) (by decide)) ?_
  refine zva (cvU (k':=.u8) rfl) ?_
  rw[show szU .u8=256 from rfl,Nat.mod_mod]
  refine zDa hO (zOH _ _) ?_
  clear hO
  intro q H hO
  refine zwd (ys:=[((n / 2 ^ (56 - 8 * y) % 256:Nat):Int)]) hO hv (by rw[List.length_append,List.length_take]; simp; omega) rfl (.inr rfl) ?_
  clear hO hv
  intro H v cs hO hv
  have e:(be8 n).take y++[((n / 2 ^ (56 - 8 * y) % 256:Nat):Int)]=(be8 n).take (y+1):=by
   rw[List.take_add_one,zgF hy8]; rfl
  rw[List.append_assoc,e] at hv
  have hb:2 ^ (56 - 8 * y) < szU .u64:=Nat.lt_of_le_of_lt (Nat.pow_le_pow_right (by omega) (show 56 - 8 * y≤56 by omega)) (by decide)
  refine zaa (zBs (k:=.u64) (b:=256) rfl (by decide) hb) ?_
  repeat (first|refine oi ?_|refine ow ?_|refine wy ?_|refine wn ?_|refine wt ?_|refine wf' ?_|refine cy ?_|refine cn ?_)
  refine⟨8 - (y+1),by omega,y+1,v,cs,by omega,rfl,?_,hO,hv⟩
  rw[← hf,Nat.div_div_eq_div_mul,← Nat.pow_succ]
  rfl
 ·have hy:y=8:=by omega
  subst hy
  rw[List.take_of_length_le (by rw[zYs]; omega)] at hv
  exact hk H v cs hO hv
theorem zwL{p2 p7 p8:Nat}{Qx:LX}{Qr:LN}(hv:RdB Γ v data)(hb:∀ x ∈ data,0≤x∧x≤255)(hm:data.length % 64=0)(hl:data.length≤1000000000)
  (hO:St H (Γ++[(p7,⟨l8 zzG,true⟩),(p8,⟨zfk.map fun (n:Nat)=>u64 n,true⟩)]))
  (hk:∀ H',St H' (Γ++[(p7,⟨l8 (dSt data),true⟩),(p8,⟨zfk.map fun (n:Nat)=>u64 n,true⟩)])→Qx 4 [ptr p2 0,ptr p7 0] H') :
  zHb P true 252 zfj 132 [ptr p2 0,v,ptr p7 0,ptr p8 0,int 0] H Qx Qr:=by
 refine zSn (fun k l' H'=>∃ (y:Nat),64 * y≤data.length∧k=data.length / 64 - y∧l'=[ptr p2 0,v,ptr p7 0,ptr p8 0,int ((64 * y:Nat):Int)]∧St H' (Γ++[(p7,⟨l8 (stN data y),true⟩),(p8,⟨zfk.map fun (n:Nat)=>u64 n,true⟩)])) _ _ ?_ (data.length / 64) _ _ ⟨0,by omega,rfl,rfl,hO⟩
 clear hO
 rintro k l' H ⟨y,hy,rfl,rfl,hO⟩
 unfold zwn
 try simp only[zia,zja]
 refine zva hv.lenSl ?_
 refine zaa zMa ?_
 refine zma (fun h=>?_) (fun h=>?_)
 ·have hy64:64 * y+64≤data.length:=by omega
  have hbb:∀ x ∈ (data.drop (64 * y)).take 64,0≤x∧x≤255:=fun x hx=>hb x (List.mem_of_mem_drop (List.mem_of_mem_take hx))
  refine zaa zrL ?_
  rw[zQG]
  refine zeb hO ?_
  clear hO
  intro p10 H hO
  refine zya hO (_+0) (zwa rfl) rfl rfl rfl ?_
  clear hO
  intro H hO
  replace hO:=hO.set_r
  refine zpL hv.app hb hy64 hl hO ?_
  clear hO
  intro H hO
  refine zZa rfl ?_
  try simp only[zia,zja]
  refine zFa hO (Γ.length+0) (zCa (zwa rfl)) rfl (by omega) ?_
  rw[zjK]
  refine zeb hO ?_
  clear hO
  intro p15 H hO
  refine zya hO (_+0) (zwa rfl) rfl rfl rfl ?_
  clear hO
  intro H hO
  replace hO:=hO.set_r
  refine zqL (s:=stN data y) (ws:=wUp ((data.drop (64 * y)).take 64) 64) (zMu y) (zNu hbb 64) (zLp 64) (j8:=Γ.length+1) (j10:=_+0) (zCa (zwa rfl)) (zwa rfl) hO ?_
  clear hO
  intro H hO
  refine zZa rfl ?_
  try simp only[zia,zja]
  rw[List.append_assoc,List.append_assoc] at hO
  refine zsL (s:=stN data y) (R:=ztw (wUp ((data.drop (64 * y)).take 64) 64) (stN data y) 64) (T:=[(p10,_),(p15,_)]) (zMu y) (zKp (zMu y) 64) rfl hO ?_
  clear hO
  intro H hO
  refine zZa rfl ?_
  try simp only[zia,zja]
  refine zaa (v:=int ((64 * (y+1):Nat):Int)) (by rw[zLc (by omega) (by omega)]; congr 2 <;> omega) ?_
  refine⟨data.length / 64 - (y+1),by omega,y+1,by omega,rfl,rfl,?_⟩
  rw[← List.append_assoc] at hO
  exact hO.left
 ·have ey:y=data.length / 64:=by omega
  subst ey
  exact hk _ hO
set_option maxHeartbeats 1000000 in
theorem zgg(hO:St H Γ)(hx:RdB Γ x xs)(hb:∀ x ∈ xs,0≤x∧x≤255)(hl:xs.length≤80000000)(hk:∀ H',St H' Γ→K (agg (by8 (sha xs))) H'):wCall P zmb [x] H K:=by
 apply zou; unfold znu
 rw[zQu]
 refine zeb hO ?_
 clear hO
 intro p2 H hO
 refine zDa hO (zYl _) ?_
 clear hO
 intro q H hO
 refine zEc (v:=sl q 0 0 3) (cs:=[]) (xs:=[]) hO (.inr ⟨q,.inr ⟨rfl,rfl⟩,rfl,Nat.le_refl _,rfl⟩) hx.app (by simp; omega) ?_
 clear hO
 intro H v cs hO hv
 refine zDa hO (zOH 128 _) ?_
 clear hO
 intro q2 H hO
 refine zwd (ys:=[128]) hO hv (by simp; omega) rfl (.inr rfl) ?_
 clear hO hv
 intro H v cs hO hv
 refine zuL (xs:=xs) hO hv (by omega) ?_
 clear hO hv
 intro H v cs hO hv
 refine zZa rfl ?_
 try simp only[zia,zja]
 have hpz:zZm xs.length < 64:=Nat.mod_lt _ (by decide)
 have hpl:=zlE (xs:=xs)
 have hpb:∀ x ∈ zCB xs,0≤x∧x≤255:=zsd (zsd (zsd hb (zYy (by decide))) zPu) zhF
 have hpm:(zCB xs).length≤1000000000:=by
  unfold zCB
  rw[List.length_append,List.length_append,List.length_append,List.length_replicate,zYs]
  show xs.length+1+zZm xs.length+8≤_
  omega
 refine zva hx.lenSl ?_
 refine zva (zLH (by omega) (by omega)) ?_
 rw[Int.toNat_natCast]
 refine zaa (v:=zsb .u64 (8 * xs.length)) (by
  rw[show (Value.int .u64 8)=zsb .u64 8 from rfl,zwl (k:=.u64) rfl,Nat.mod_eq_of_lt (show xs.length * 8 < szU .u64 from (show _ < 18446744073709551616 by omega)),Nat.mul_comm]) ?_
 refine zvL hO hv (by simp; omega) (by omega) ?_
 clear hO hv
 intro H v cs hO hv
 replace hv:OwnB v (zCB xs) cs:=hv
 refine zZa rfl ?_
 try simp only[zia,zja]
 refine zZy hO ?_
 clear hO
 intro H hO
 refine zyw hO ?_
 clear hO
 intro H hO
 rw[zjK,zQG]
 refine zeb hO ?_
 clear hO
 intro p7 H hO
 refine zeb hO ?_
 clear hO
 intro p8 H hO
 rw[List.append_assoc _ [_] [_]] at hO
 refine zya hO (_+0) (zwa (L:=[_]++[_]) rfl) rfl rfl rfl ?_
 clear hO
 intro H hO
 replace hO:=hO.set_r
 refine zya hO (_+1) (zwa (L:=[_,_]) rfl) rfl rfl rfl ?_
 clear hO
 intro H hO
 replace hO:=hO.set_r
 refine zwL (data:=zCB xs) hv.rd.app' hpb hpl hpm hO ?_
 clear hO
 intro H hO
 refine zZa rfl ?_
 try simp only[zia,zja]
 refine zaa (v:=agg (zoq [])) (by kernel_rfl) ?_
 rw[show List.replicate 32 (zsb .u8 0)=zoq [] from rfl] at hO ⊢
 refine zeb hO ?_
 clear hO
 intro p23 H hO
 refine zya hO (_+0) (zwa rfl) rfl rfl rfl ?_
 clear hO
 intro H hO
 replace hO:=hO.set_r
 refine ztL (s:=dSt (zCB xs)) (T:=[]) (zMu _) (j7:=_+0) (zwa (L:=[_,_]) rfl) hO ?_
 clear hO
 intro H hO
 refine zZa rfl ?_
 try simp only[zia,zja]
 refine zFa hO (_+0) (zwa rfl) rfl (by omega) ?_
 refine zya hO (Γ.length+0) (zCa (zCa (zCa (zwa rfl)))) rfl rfl (zad _) ?_
 clear hO
 intro H hO
 rw[List.set_append_left _ _ (by simp),List.set_append_left _ _ (by simp),List.set_append_left _ _ (by simp),Go.Ab.set_r] at hO
 refine zFa hO (Γ.length+0) (zCa (zCa (zCa (zwa rfl)))) rfl (by omega) ?_
 exact hk H hO.left.left.left.left
end J
set_option maxRecDepth 100000
namespace J
open Go Go.Ab
variable{H:Heap}{Γ:List (Nat × Blk)}{K:VH}{v w x:Value}{xs ys:List Int}
theorem zuj{n:Nat}(hn:n≤8)(hk:K (int n) H):wCall P zEg [int n] H K:=by
 apply zRs; unfold zxr
 repeat (first|refine oi ?_|refine ow ?_|refine wy ?_|refine wn ?_|refine wt ?_|refine wf' ?_|refine cy ?_|refine cn ?_)
 exact hk
theorem zVc{n size:Nat}(hO:St H Γ)(hn:n < 2 ^ 64)(hs:size≤8)(hk:MadeB Γ K (leN size n)):wCall P zrc [zsb .u64 n,int size] H K:=by
 apply zzq; unfold zvp
 refine zDa hO (zYl _) ?_
 intro q H hO
 refine zFl (fun k l' H'=>∃ (y:Nat) (v':Value) (cs':List Value),y≤size∧k=size - y∧l'=[zsb .u64 (n / 256 ^ y),int size,zqa,v',int y]∧St H' (Γ++zKa v' cs')∧OwnB v' (leN y n) cs') _ _ ?_ size _ _ ⟨0,sl q 0 0 3,[],by omega,by omega,by simp,hO,.inr ⟨q,.inr ⟨rfl,rfl⟩,rfl,Nat.zero_le _,rfl⟩⟩
 clear hO
 rintro k l' H' ⟨y,v',cs',hy,rfl,rfl,hO,hv'⟩
 unfold zsk
 try simp only[zia,zja]
 refine zuj hs ?_
 repeat (first|refine oi ?_|refine ow ?_|refine wy ?_|refine wn ?_|refine wt ?_|refine wf' ?_|refine cy ?_|refine cn ?_)
 refine zma (fun h=>?_) (fun h=>?_)
 ·have hyl:y < size:=by omega
  have hb:n / 256 ^ y < 2 ^ 64:=Nat.lt_of_le_of_lt (Nat.div_le_self _ _) hn
  refine zaa (zDf (b:=256) (by decide)) ?_
  refine zva (cvU rfl) ?_
  refine zDa hO (zJx _ _ _) ?_
  intro q H hO
  rw[show n / 256 ^ y % 256 % szU .u8=n / 256 ^ y % 256 from Nat.mod_mod _ _] at *
  refine zwd (ys:=[((n / 256 ^ y % 256:Nat):Int)]) hO hv' (by have:=zqd y n; simp[this]; omega) rfl (.inr rfl) ?_
  intro H v'' cs'' hO hv''
  refine zaa (zBs (b:=256) rfl (by decide) hb) ?_
  repeat (first|refine oi ?_|refine ow ?_|refine wy ?_|refine wn ?_|refine wt ?_|refine wf' ?_|refine cy ?_|refine cn ?_)
  refine⟨_,by omega,y+1,v'',cs'',by omega,rfl,?_,hO,?_⟩
  ·rw[Nat.div_div_eq_div_mul,← Nat.pow_succ]; rfl
  ·rw[zfE]; exact hv''
 ·have e:y=size:=by omega
  subst e
  repeat (first|refine oi ?_|refine ow ?_|refine wy ?_|refine wn ?_|refine wt ?_|refine wf' ?_|refine cy ?_|refine cn ?_)
  exact hk _ _ _ hO hv'
end J
set_option maxRecDepth 100000
namespace J
open Go Go.Ab
variable{H:Heap}{Γ:List (Nat × Blk)}{K:VH}{v w x:Value}{xs ys:List Int}{j p:Nat}{e:Int}
set_option maxHeartbeats 1000000 in
theorem zdh{n:Nat}(hO:St H Γ)(hj:Γ[j]?=some (p,rdr v e))(hv:RdB Γ v xs)(hn:n≤1000000)(hx:xs.length≤1000000)
  (hk:∀ H' v2 v' cs',St H' (rdN Γ j p xs e n v2++zKa v' cs')→Inh v xs v2 (tkR xs e n)→OwnB v' (tkB xs e n) cs'→K v' H'):wCall P zXe [ptr p 0,int n] H K:=by
 apply zGu; unfold zFu
 have hjl:=(List.getElem?_eq_some_iff.1 hj).1
 refine zxa (fun l' H'=>l'=[ptr p 0,int n]∧St H' Γ) ?_ ?_
 ·repeat (first|refine oi ?_|refine ow ?_|refine wy ?_|refine wn ?_|refine wt ?_|refine wf' ?_|refine cy ?_|refine cn ?_)
  exact⟨rfl,hO⟩
 clear hO
 rintro l' H ⟨rfl,hO⟩
 try simp only[zia,zja]
 refine zxa (fun l' H'=>l'=[ptr p 0,int n]∧St H' (Γ.set j (p,rdr v (tkE xs e n)))) ?_ ?_
 ·refine zxa (fun l' H'=>l'=[ptr p 0,int n,.bool (decide (e=0∧xs.length < n))]∧St H' Γ) ?_ ?_
  ·refine zaa zca ?_
   refine zaa zba ?_
   refine zoa hO j hj rfl ?_
   refine zaa zUa ?_
   refine zma (fun h=>?_) (fun h=>?_)
   ·refine zaa zca ?_
    refine zaa zba ?_
    refine zoa hO j hj rfl ?_
    refine zva hv.lenSl ?_
    repeat (first|refine oi ?_|refine ow ?_|refine wy ?_|refine wn ?_|refine wt ?_|refine wf' ?_|refine cy ?_|refine cn ?_)
    refine⟨?_,hO⟩
    rw[decide_eq_decide.2 (show (xs.length:Int) < n↔(e=0∧xs.length < n) by omega)]
   ·repeat (first|refine oi ?_|refine ow ?_|refine wy ?_|refine wn ?_|refine wt ?_|refine wf' ?_|refine cy ?_|refine cn ?_)
    exact⟨by rw[decide_eq_false (show ¬ (e=0∧xs.length < n) from fun h'=>h h'.1)],hO⟩
  clear hO
  rintro l' H ⟨rfl,hO⟩
  try simp only[zia,zja]
  refine zma (fun h=>?_) (fun h=>?_)
  ·refine zaa zca ?_
   refine zaa zba ?_
   refine zNa hO j hj rfl (show 1 < 2 by omega) (show _=[v,int 51] from rfl) ?_
   intro H hO
   refine⟨trivial,?_⟩
   unfold tkE
   rw[if_neg (by omega),if_pos h.1]
   exact hO
  ·refine⟨trivial,?_⟩
   have:tkE xs e n=e:=by
    unfold tkE
    by_cases h2:e=0
    ·rw[if_pos ⟨h2,by omega⟩,h2]
    ·rw[if_neg (fun h=>h2 h.1),if_neg h2]
   rw[this,zFx hj]
   exact hO
 clear hO
 rintro l' H ⟨rfl,hO⟩
 try simp only[zia,zja]
 have hj2:=zHu (y:=(p,rdr v (tkE xs e n))) hj
 refine zaa zca ?_
 refine zaa zba ?_
 refine zoa hO j hj2 rfl ?_
 refine zaa zQa ?_
 by_cases hg:e=0∧n≤xs.length
 ·have he:tkE xs e n=0:=if_pos hg
  have hb:tkB xs e n=xs.take n:=if_pos hg
  have hr:tkR xs e n=xs.drop n:=if_pos hg
  refine zqc (fun h=>h he) ?_
  refine zDa hO (zYl _) ?_
  intro r H hO
  refine zaa zca ?_
  refine zaa zba ?_
  refine zoa hO j (zCa hj2) rfl ?_
  have hv2:=zGr (b':=rdr v (tkE xs e n)) (p':=p) hv hj (RdB.shape hv)
  obtain⟨v1,e1,r1⟩:=zhi hv2 hg.2
  obtain⟨v2,e2,r2⟩:=zXs hv2 hg.2
  refine zaa e1 ?_
  refine zEc (v:=sl r 0 0 3) (cs:=[]) (xs:=[]) hO (.inr ⟨r,.inr ⟨rfl,rfl⟩,rfl,Nat.le_refl _,rfl⟩) (r1 _ hv2) (by rw[List.length_take]; simp; omega) ?_
  intro H v' cs' hO hv'
  refine zaa zca ?_
  refine zaa zba ?_
  refine zoa hO j (zCa hj2) rfl ?_
  refine zaa e2 ?_
  refine zaa zca ?_
  refine zaa zba ?_
  obtain⟨a2,n2,c2,rfl⟩:=RdB.shape (r2 _ hv2)
  refine zNa hO j (zCa hj2) rfl (show 0 < 2 by omega) (show _=[.slice a2 n2 c2,int (tkE xs e n)] from rfl) ?_
  intro H hO
  rw[List.set_append_left _ _ (by rw[List.length_set]; exact hjl),List.set_set] at hO
  exact hk _ _ _ cs' hO (by rw[hr]; exact r2) (by rw[hb]; exact hv')
 ·have he:tkE xs e n≠0:=by unfold tkE; rw[if_neg hg]; split <;> omega
  have hb:tkB xs e n=[]:=if_neg hg
  have hr:tkR xs e n=[]:=if_neg hg
  refine zNb he ?_
  refine zaa zca ?_
  refine zaa zba ?_
  refine zNa hO j hj2 rfl (show 0 < 2 by omega) (show _=[zqa,int (tkE xs e n)] from rfl) ?_
  intro H hO
  rw[List.set_set] at hO
  refine hk _ zqa zqa [] (by show St H (_++[]); rw[List.append_nil]; exact hO) (by rw[hr]; exact .none) (by rw[hb]; exact .nil)
end J
set_option maxRecDepth 100000
namespace J
open Go Go.Ab
variable{H:Heap}{Γ:List (Nat × Blk)}{K:VH}{v w x:Value}{xs ys:List Int}{j p:Nat}{e:Int}
theorem zQx:∀ (xs:List Int) (y:Nat) (h:y < xs.length),leV (xs.take (y+1))=leV (xs.take y)+256 ^ y * xs[y].toNat
 | x::r,0,_=>by simp[leV]
 | x::r,y+1,h=>by
  have hr:y < r.length:=by simpa using h
  have:=zQx r y hr
  simp only[List.take_succ_cons,leV,this,List.getElem_cons_succ,Nat.pow_succ,Nat.mul_add]
  have:256 * (256 ^ y * r[y].toNat)=256 ^ y * 256 * r[y].toNat:=by rw[← Nat.mul_assoc,Nat.mul_comm 256 (256 ^ y)]
  omega
theorem zRG{y:Nat}(h:y≤8):256 ^ y≤2 ^ 64:=by
 have:(256:Nat) ^ y≤256 ^ 8:=Nat.pow_le_pow_right (by omega) h
 exact this
theorem zSG{y:Nat}(h:y < 8):256 ^ y < 2 ^ 64:=by
 have:(256:Nat) ^ y≤256 ^ 7:=Nat.pow_le_pow_right (by omega) (by omega)
 exact Nat.lt_of_le_of_lt this (by decide)
theorem zUu{bs:List Int}(hb:∀ x ∈ bs,0≤x∧x≤255){y:Nat}(h:y≤8):leV (bs.take y) < 2 ^ 64:=by
 have h1:=zJu (bs.take y) fun z hz=>hb z (List.mem_of_mem_take hz)
 have h2:=zRG (y:=(bs.take y).length) (by rw[List.length_take]; omega)
 omega
theorem zoE{bs:List Int}(hb:∀ x ∈ bs,0≤x∧x≤255){y:Nat}(h8:y < 8)(h:y < bs.length):(leV (bs.take y)+bs[y].toNat * (256 ^ y % 2 ^ 64) % 2 ^ 64) % 2 ^ 64=leV (bs.take (y+1))∧256 ^ y % 2 ^ 64 * 256 % 2 ^ 64=256 ^ (y+1) % 2 ^ 64:=by
 have h1:=zQx bs y h
 have h2:=zUu hb (show y+1≤8 by omega)
 rw[Nat.mod_eq_of_lt (zSG h8)]
 constructor
 ·rw[Nat.mul_comm,Nat.mod_eq_of_lt (a:=256 ^ y * bs[y].toNat) (by omega),← h1,Nat.mod_eq_of_lt h2]
 ·rw[show (256:Nat) ^ (y+1)=256 ^ y * 256 from rfl]
theorem zPg{k:Nat}(hk8:k≤8)(hO:St H Γ)(hj:Γ[j]?=some (p,rdr v e))(hv:RdB Γ v xs)(hx:xs.length≤1000000)(hb:∀ x ∈ xs,0≤x∧x≤255)
  (hk:∀ H' v2,St H' (rdN Γ j p xs e k v2)→Inh v xs v2 (tkR xs e k)→K (zsb .u64 (leV (tkB xs e k))) H'):wCall P zic [ptr p 0,int k] H K:=by
 apply zdo; unfold zTl
 refine zuj hk8 ?_
 refine zdh hO hj hv (by omega) hx ?_
 intro H v2 v' cs' hO r2 hv'
 have hbb:=RdB.bytes hb k e
 have hbl:=zYm xs e k
 generalize tkB xs e k=bs at *
 have hk:=hk (v2:=v2)
 generalize rdN Γ j p xs e k v2=Γ2 at *
 refine zva hv'.lenSl ?_
 refine zdk (fun k l' H'=>∃ y:Nat,y≤bs.length∧k=bs.length - y∧l'=[.int .u64 0,zsb .u64 (leV (bs.take y)),zsb .u64 (256 ^ y % 2 ^ 64),v',int bs.length,int y]∧St H' (Γ2++zKa v' cs')) _ _ ?_ bs.length _ _ ⟨0,by omega,by omega,by simp[leV],hO⟩
 clear hO
 rintro k l' H' ⟨y,hy,rfl,rfl,hO⟩
 unfold zti
 try simp only[zia,zja]
 repeat (first|refine oi ?_|refine ow ?_|refine wy ?_|refine wn ?_|refine wt ?_|refine wf' ?_|refine cy ?_|refine cn ?_)
 refine zma (fun h=>?_) (fun h=>?_)
 ·have hyl:y < bs.length:=by omega
  have hx:=hbb _ (List.getElem_mem hyl)
  obtain⟨s1,s2⟩:=zoE hbb (show y < 8 by omega) hyl
  obtain⟨p2,o,c,j2,b,rfl,h1,h2⟩:=(hv'.rd.app' (Γ:=Γ2)).at hyl
  repeat (first|refine oi ?_|refine ow ?_|refine wy ?_|refine wn ?_|refine wt ?_|refine wf' ?_|refine cy ?_|refine cn ?_)
  refine zoa hO j2 h1 (v:=.int .u8 bs[y]) (by simpa using h2) ?_
  rw[zOk hx.1]
  refine zva (cvU rfl) ?_
  rw[show bs[y].toNat % szU .u64=bs[y].toNat from Nat.mod_eq_of_lt (show bs[y].toNat < 2 ^ 64 by omega)]
  refine zaa (zwl rfl) ?_
  refine zaa (zfd rfl) ?_
  refine zaa (zwl (b:=256) rfl) ?_
  rw[show szU .u64=2 ^ 64 from rfl,s1,s2]
  repeat (first|refine oi ?_|refine ow ?_|refine wy ?_|refine wn ?_|refine wt ?_|refine wf' ?_|refine cy ?_|refine cn ?_)
  exact⟨_,by omega,y+1,by omega,rfl,rfl,hO⟩
 ·have e:y=bs.length:=by omega
  subst e
  repeat (first|refine oi ?_|refine ow ?_|refine wy ?_|refine wn ?_|refine wt ?_|refine wf' ?_|refine cy ?_|refine cn ?_)
  rw[List.take_of_length_le (Nat.le_refl _)]
  exact hk _ hO.left r2
end J
set_option linter.unusedSectionVars false
set_option maxRecDepth 100000
namespace J
open Go Go.Ab
variable{H:Heap}{Γ Γ0 Γ2 Δ G L:List (Nat × Blk)}{K:VH}{v w x:Value}{xs ys zs bs b key ms:List Int}{j p q o n k:Nat}{e:Int}{cs cs':List Value}
section rules
variable[LpC]
theorem _root_.Go.Ab.St.z(h:St H Γ):St H (Γ++[]):=by rw[List.append_nil]; exact h
theorem _root_.Go.Ab.St.as{A B:List (Nat × Blk)}(h:St H ((Γ++A)++B)):St H (Γ++(A++B)):=by rw[List.append_assoc] at h; exact h
theorem nw(h:St H (Γ++L))(hk:∀ p H',St H' (Γ++(L++[(p,⟨cs,true⟩)]))→K (ptr p 0) H'):zCb cs H K:=
 zeb h fun p H' hO=>hk p H' hO.as
theorem s1{K:VH}(h:St H (Γ++L))(k:Nat)(hi:L[k]?=some (p,⟨cs,true⟩))(h1:oneCell v=true)(hn:o < cs.length)(hk:∀ H',St H' (Γ++L.set k (p,⟨cs.set o v,true⟩))→K undef H'):opW (zha 1 (ptr p o) v H) K:=
 zNa h (Γ.length+k) (zwa hi) h1 hn rfl fun H' hO=>hk H' hO.set_r
theorem sw{K:VH}{new:List Value}(h:St H (Γ++L))(k:Nat)(hi:L[k]?=some (p,⟨cs,true⟩))(hn:cs.length=n)(hl:new.length=n)(h1:new.all oneCell=true)(hk:∀ H',St H' (Γ++L.set k (p,⟨new,true⟩))→K undef H'):opW (zha n (ptr p 0) (agg new) H) K:=
 zya h (Γ.length+k) (zwa hi) hn hl h1 fun H' hO=>hk H' hO.set_r
theorem lw{K:VH}{b:Bool}(h:St H (Γ++L))(k:Nat)(hi:L[k]?=some (p,⟨cs,b⟩))(hn:cs.length=n)(hp:0 < n)(hk:K (agg cs) H):opW (zka n (ptr p 0) H) K:=
 zFa h (Γ.length+k) (zwa hi) hn hp hk
theorem sar(h:St H (Γ++L))(k:Nat)(hi:L[k]?=some (p,⟨cs,true⟩))(hn:cs.length=n)(hp:0 < n):zJb n 1 (ptr p 0) none none none H=some (sl p 0 n 3):=
 zUf h (Γ.length+k) (zwa hi) hp (by show 0+n≤cs.length; omega)
theorem zpE{b:Bool}(k:Nat)(hi:L[k]?=some (p,⟨by8 xs,b⟩)){c:Nat}(hc:c=2∨c=3)(hn:xs.length=n):RdB (Γ++L) (sl p 0 n c) xs:=
 .inr ⟨p,0,c,by rw[hn],hc,.inr ⟨Γ.length+k,_,zwa hi,by rw[List.drop_zero]; exact List.take_of_length_le (by simp)⟩⟩
theorem kp{q o n c:Nat}{K:VH}(hO:St H (Γ++L))(k:Nat)(hi:L[k]?=some (q,⟨cs,true⟩))(hn:0 < n)(hk:K (sl q o n c) H):opW (zmi (sl q o n c) H) K:=by
 have hg:H.get q=some ⟨cs,true⟩:=hO.at _ (zwa hi) (.inl rfl)
 refine zva ?_ hk
 have hb:Nat.beq n 0=false:=by
  cases hb:Nat.beq n 0 with
  | false=>rfl
  | true=>have:=Nat.eq_of_beq_eq_true hb; omega
 unfold zmi
 simp only[hb,hg]
 have:Heap.mayWrite H q ⟨cs,true⟩=true:=by unfold Heap.mayWrite; rw[hO.fl]; rfl
 rw[this]
theorem zji{A B:List (Nat × Blk)}(h:St H (Γ++(A++B))):St H (Γ++A):=by rw[← List.append_assoc] at h; exact h.left
theorem zhg{A B:List (Nat × Blk)}(h:St H (Γ++(A++B))):St H (Γ++B):=by rw[← List.append_assoc] at h; exact St.mid h
theorem zzw{i:Nat}{K:VH}{c:Nat}(hO:St H Γ)(hi:Γ[i]?=some (q,⟨cs,true⟩))(hv:RdB Γ v ys)(hn:ys.length≤n)(hl:o+n≤cs.length)
  (hk:∀ H',St H' (Γ.set i (q,⟨cs.take o++(by8 ys++cs.drop (o+ys.length)),true⟩))→K (int ys.length) H'):opW (zni 1 (sl q o n c) v H) K:=by
 obtain⟨H',hw,hs⟩:=zts hO (o:=o) (vs:=by8 ys) hi (by simp; omega) (by simp[oneCell])
 unfold zni
 simp only[hv.lenA]
 have hm:Nat.min ys.length n=ys.length:=Nat.min_eq_left hn
 rw[hm]
 cases hb:Nat.beq ys.length 0 with
 | true=>
  have h0:=Nat.eq_of_beq_eq_true hb
  have:ys=[]:=List.length_eq_zero_iff.1 h0
  subst this
  have e:cs.take o++(by8 []++cs.drop (o+([]:List Int).length))=cs:=by
   show cs.take o++([]++cs.drop (o+0))=cs
   simp
  refine zva (show _=some (int (0:Nat),H) from rfl) (hk H ?_)
  rw[e,zFx hi]; exact hO
 | false=>
  simp only[Bool.false_eq_true,if_false]
  rw[hv.elems hO]
  simp only
  rw[hw]
  refine zva (show some (Value.int .i64 ((ys.length:Nat):Int),H')=_ from rfl) ?_
  rw[List.length_map] at hs
  exact hk _ hs
end rules
end J
set_option maxRecDepth 100000
namespace J
open Go Go.Ab
variable{H:Heap}{Γ Γ0 Γ2 Δ G L:List (Nat × Blk)}{K:VH}{v w x:Value}{xs ys zs bs b key ms:List Int}{j p q o n k:Nat}{e:Int}{cs cs':List Value}
def zDk(k:List Int):List Int:=if 64 < k.length then sha k else k
def zNz(x:Int)(w:Nat):Int:=((x.toNat ^^^ w:Nat):Int)
def zpq(k:List Int)(w:Nat):List Int:=(List.range 64).map fun i=>zNz ((zDk k).getD i 0) w
def zPp(k m:List Int):List Int:=sha (zpq k 92++sha (zpq k 54++m))
theorem zFb{m:List Int}:(sha m).length=32:=rfl
theorem zIr{m:List Int}:∀ x ∈ sha m,0≤x∧x≤255:=by
 intro x hx
 obtain⟨a,_,hx⟩:=List.mem_flatMap.1 hx
 have hm:∀ n:Nat,0≤((n % 256:Nat):Int)∧((n % 256:Nat):Int)≤255:=fun n=>by omega
 unfold be4 at hx
 simp only[List.mem_cons,List.not_mem_nil,or_false] at hx
 rcases hx with rfl|rfl|rfl|rfl <;> exact hm _
theorem zdt(k:List Int):(zDk k).length≤64:=by
 unfold zDk
 split
 ·rw[zFb]; omega
 ·omega
theorem zQp(hb:∀ x ∈ key,0≤x∧x≤255):∀ x ∈ zDk key,0≤x∧x≤255:=by
 unfold zDk
 split
 ·exact zIr
 ·exact hb
theorem zYb{k:List Int}{w:Nat}:(zpq k w).length=64:=by simp[zpq]
theorem zAw{x:Int}{w:Nat}(hx:x.toNat < 256)(hw:w < 256):0≤zNz x w∧zNz x w≤255:=by
 have:=Nat.xor_lt_two_pow (n:=8) hx hw
 unfold zNz
 omega
theorem zbn{w:Nat}(hw:w < 256)(hb:∀ x ∈ key,0≤x∧x≤255):∀ x ∈ zpq key w,0≤x∧x≤255:=by
 intro x hx
 obtain⟨i,_,rfl⟩:=List.mem_map.1 hx
 exact zAw (zrd (zQp hb) i) hw
def zTG(k:List Int):List Int:=zDk k++List.replicate (64 - (zDk k).length) 0
theorem zem{k:List Int}:(zTG k).length=64:=by have:=zdt k; simp[zTG]; omega
theorem zMB{k:List Int}{i:Nat}:(zTG k).getD i 0=(zDk k).getD i 0:=by
 unfold zTG
 rw[List.getD_eq_getElem?_getD,List.getD_eq_getElem?_getD]
 by_cases h:i < (zDk k).length
 ·rw[List.getElem?_append_left h]
 ·rw[List.getElem?_append_right (by omega),List.getElem?_eq_none (l:=zDk k) (by omega),List.getElem?_replicate]
  split <;> rfl
def zBw(k:List Int)(w y:Nat):List Int:=(zpq k w).take y++(zTG k).drop y
theorem zRx{k:List Int}{w y:Nat}(h:y≤64):(zBw k w y).length=64:=by
 simp[zBw,zYb,zem]; omega
theorem zUG{k:List Int}{w y:Nat}(h:y < 64):(by8 (zBw k w y))[y]?=some (.int .u8 ((zDk k).getD y 0)):=by
 unfold zBw by8
 rw[List.map_append,List.getElem?_append_right (by simp[zYb]; omega)]
 have:(zTG k)[y]?=some ((zDk k).getD y 0):=by
  rw[List.getElem?_eq_getElem (by rw[zem]; exact h),← zMB,List.getD_eq_getElem?_getD,List.getElem?_eq_getElem (by rw[zem]; exact h)]; rfl
 simp[zYb,this,show min y 64=y by omega]
theorem zqE{k:List Int}{w y:Nat}(h:y < 64):(by8 (zBw k w y)).set y (.int .u8 (zNz ((zDk k).getD y 0) w))=by8 (zBw k w (y+1)):=by
 apply List.ext_getElem?
 intro i
 have hl:=zYb (k:=k) (w:=w)
 have hz:=zem (k:=k)
 have hp:(zpq k w)[y]?=some (zNz ((zDk k).getD y 0) w):=by
  unfold zpq; rw[List.getElem?_map,List.getElem?_range h]; rfl
 rw[List.getElem?_set]
 by_cases hi:y=i
 ·subst hi
  rw[if_pos rfl,if_pos (by simp[zRx (show y≤64 by omega)]; exact h)]
  unfold zBw by8
  rw[List.map_append,List.getElem?_append_left (by simp[hl]; omega)]
  simp[hp]
 ·rw[if_neg hi]
  unfold zBw by8
  rw[List.map_append,List.map_append]
  by_cases h2:i < y
  ·rw[List.getElem?_append_left (by simp[hl]; omega),List.getElem?_append_left (by simp[hl]; omega)]
   simp[List.getElem?_take,h2,show i < y+1 by omega]
  ·rw[List.getElem?_append_right (by simp[hl]; omega),List.getElem?_append_right (by simp[hl]; omega)]
   simp[hl,show min y 64=y by omega,show min (y+1) 64=y+1 by omega]
   congr 2; omega
theorem zkK:zc P 195=List.replicate 64 (zsb .u8 0):=by kernel_rfl
set_option maxHeartbeats 1000000 in
theorem zRp{m:Nat}(hm:m < 256)(hO:St H Γ)(hv:RdB Γ v key)(hb:∀ x ∈ key,0≤x∧x≤255)(hl:key.length≤80000000)
  (hk:∀ H' q,St H' (Γ++[(q,⟨by8 (zpq key m),true⟩)])→K (sl q 0 64 3) H'):wCall P zjf [v,.int .u8 m] H K:=by
 apply zVs; unfold zDr
 refine zxa (fun l' H'=>∃ (v':Value) (B:List (Nat × Blk)),l'=[v',.int .u8 m,zqa]∧St H' (Γ++B)∧RdB (Γ++B) v' (zDk key)) ?_ ?_
 ·refine zva hv.lenSl ?_
  refine zaa zTb ?_
  refine zma (fun h=>?_) (fun h=>?_)
  ·obtain⟨a,n,c,hs⟩:=hv.shape
   refine zDa hO (by rw[hs]; exact zeF _ _ _ _) ?_
   rw[← hs]
   clear hO
   intro q H hO
   refine zRu (j:=Γ.length+0) hO (zwa rfl) hv.app hb hl ?_
   clear hO
   intro H hO
   rw[zQu]
   refine nw hO ?_
   clear hO
   intro p5 H hO
   refine sw hO 1 rfl (by simp) (by simp[zFb]) (zad _) ?_
   clear hO
   intro H hO
   refine zaa (sar hO 1 rfl (by simp[zFb]) (by omega)) ?_
   refine⟨_,_,rfl,hO,?_⟩
   rw[show zDk key=sha key from if_pos (by omega)]
   exact zpE 1 rfl (.inr rfl) zFb
  ·refine⟨v,[],rfl,hO.z,?_⟩
   rw[show zDk key=key from if_neg (by omega)]
   exact hv.app
 clear hO
 rintro l' H ⟨v',B,rfl,hO,hr⟩
 try simp only[zia,zja]
 rw[zkK]
 refine zeb hO ?_
 clear hO
 intro p6 H hO
 have hkl:=zdt key
 refine zaa (zUf hO ((Γ++B).length+0) (zwa rfl) (by omega) (by simp)) ?_
 refine zzw hO (zwa (k:=0) rfl) hr.app hkl (by simp) ?_
 clear hO
 intro H hO
 replace hO:=hO.set_r
 have e0:((List.replicate 64 (zsb .u8 0)).take 0++(by8 (zDk key)++(List.replicate 64 (zsb .u8 0)).drop (0+(zDk key).length)))=by8 (zBw key m 0):=by
  rw[Nat.zero_add,List.drop_replicate]
  simp only[zBw,zTG,List.take_zero,List.nil_append,List.drop_zero,by8,List.map_append,List.map_replicate]
  rfl
 rw[e0] at hO
 replace hO:St H (Γ++[(p6,⟨by8 (zBw key m 0),true⟩)]):=St.mid hO
 refine zVm (fun k l' H'=>∃ (y:Nat),y≤64∧k=64 - y∧l'=[.int .u8 m,zqa,ptr p6 0,int y]∧St H' (Γ++[(p6,⟨by8 (zBw key m y),true⟩)])) _ _ ?_ 64 _ _ ⟨0,by omega,by omega,rfl,hO⟩
 clear hO
 rintro k l' H ⟨y,hy,rfl,rfl,hO⟩
 unfold zQl
 try simp only[zia,zja]
 refine zaa zMa ?_
 refine zma (fun h=>?_) (fun h=>?_)
 ·have hy:y < 64:=by omega
  have hg:=zrd (zQp hb) y
  repeat (first|refine oi ?_|refine ow ?_|refine wy ?_|refine wn ?_|refine wt ?_|refine wf' ?_|refine cy ?_|refine cn ?_)
  refine ld hO 0 rfl (by rw[show 0+(y:Int).toNat * 1=y by omega]; exact zUG hy) ?_
  have hx:Value.int .u8 ((zDk key).getD y 0)=zsb .u8 ((zDk key).getD y 0).toNat:=by
   refine zOk ?_
   rw[List.getD_eq_getElem?_getD]
   by_cases hi:y < (zDk key).length
   ·rw[List.getElem?_eq_getElem hi]; exact (zQp hb _ (List.getElem_mem hi)).1
   ·rw[List.getElem?_eq_none (by omega)]; decide
  rw[hx]
  refine zaa (zQb (k:=.u8) rfl hg hm) ?_
  repeat (first|refine oi ?_|refine ow ?_|refine wy ?_|refine wn ?_|refine wt ?_|refine wf' ?_|refine cy ?_|refine cn ?_)
  refine s1 hO 0 rfl rfl (by simp[zRx (show y≤64 by omega)]; omega) ?_
  clear hO
  intro H hO
  repeat (first|refine oi ?_|refine ow ?_|refine wy ?_|refine wn ?_|refine wt ?_|refine wf' ?_|refine cy ?_|refine cn ?_)
  refine⟨_,?_,y+1,by omega,rfl,rfl,?_⟩
  ·omega
  ·have e1:=zqE (k:=key) (w:=m) hy
   rw[show 0+(y:Int).toNat * 1=y by omega] at hO
   have hO:St H (Γ++[(p6,⟨(by8 (zBw key m y)).set y (.int .u8 (zNz ((zDk key).getD y 0) m)),true⟩)]):=hO
   rw[e1] at hO; exact hO
 ·have e:y=64:=by omega
  subst e
  have e2:zBw key m 64=zpq key m:=by
   unfold zBw
   rw[List.take_of_length_le (by rw[zYb]; omega),List.drop_of_length_le (by rw[zem]; omega),List.append_nil]
  rw[e2] at hO
  repeat (first|refine oi ?_|refine ow ?_|refine wy ?_|refine wn ?_|refine wt ?_|refine wf' ?_|refine cy ?_|refine cn ?_)
  refine zaa (sar hO 0 rfl (by simp[zYb]) (by omega)) ?_
  exact hk _ _ hO
end J
set_option maxRecDepth 100000
namespace J
open Go Go.Ab
variable{H:Heap}{Γ Γ0 Γ2 Δ G L:List (Nat × Blk)}{K:VH}{v w x:Value}{xs ys zs bs b key ms:List Int}{j p q o n k:Nat}{e:Int}{cs cs':List Value}
theorem zNB{q:Nat}{v2:Value}(hO:St H Γ)(hq:Γ[j]?=some (q,(⟨[v,v2],true⟩:Blk)))(hv:RdB Γ v xs)(hv2:RdB Γ v2 ys)(hx:∀ x ∈ xs,0≤x∧x≤255)(hyb:∀ x ∈ ys,0≤x∧x≤255)(hl:xs.length≤8000000)(hl2:ys.length≤8000000)
  (hk:∀ H',St H' Γ→K (agg (by8 (sha (xs++ys)))) H'):wCall P znd [sl q 0 2 3] H K:=by
 apply zMl; unfold zUm
 rw[zQu]
 refine zeb hO ?_
 clear hO
 intro p2 H hO
 refine zyo hO ?_
 clear hO
 intro H pd hO
 have hd:Dg pd [] (DG pd (dSt []) zqa ([]:List Int).length []):=⟨zqa,[],rfl,.inl ⟨rfl,rfl,rfl⟩⟩
 refine zva zCf ?_
 generalize (DG pd (dSt []) zqa ([]:List Int).length [])=L at *
 refine zBh (fun k l' H'=>∃ (y:Nat) (L:List (Nat × Blk)),y≤2∧k=2 - y∧l'=[ptr p2 0,ptr pd 0,sl q 0 2 3,int 2,int y]∧St H' ((Γ++[(p2,⟨List.replicate 32 (zsb .u8 0),true⟩)])++L)∧Dg pd ([xs,ys].take y).flatten L) _ _ ?_ 2 _ _ ⟨0,L,by omega,rfl,rfl,hO,hd⟩
 clear hO hd
 rintro k l' H ⟨y,L,hy,rfl,rfl,hO,hd⟩
 unfold zci
 try simp only[zia,zja]
 refine zaa zMa ?_
 refine zma (fun h=>?_) (fun h=>?_)
 ·have hy0:y=0∨y=1:=by omega
  rcases hy0 with rfl|rfl
  ·refine zaa (zqb (by omega) (by omega)) ?_
   refine zoa hO j (zCa (zCa hq)) (v:=v) rfl ?_
   refine zKf hO hd hv.app (by intro x hx; cases hx) hx (by simp) (by omega) ?_
   clear hO hd
   intro H L hO hd
   repeat (first|refine oi ?_|refine ow ?_|refine wy ?_|refine wn ?_|refine wt ?_|refine wf' ?_|refine cy ?_|refine cn ?_)
   exact⟨1,by omega,1,L,by omega,rfl,rfl,hO,by simpa using hd⟩
  ·refine zaa (zqb (by omega) (by omega)) ?_
   refine zoa hO j (zCa (zCa hq)) (v:=v2) rfl ?_
   refine zKf hO hd hv2.app (by simpa using hx) hyb (by simp; omega) (by omega) ?_
   clear hO hd
   intro H L hO hd
   repeat (first|refine oi ?_|refine ow ?_|refine wy ?_|refine wn ?_|refine wt ?_|refine wf' ?_|refine cy ?_|refine cn ?_)
   exact⟨0,by omega,2,L,by omega,rfl,rfl,hO,by simpa using hd⟩
 ·have hy0:y=2:=by omega
  subst hy0
  replace hd:Dg pd (xs++ys) L:=by simpa using hd
  refine zZa rfl ?_
  try simp only[zia,zja]
  refine zdm hO hd (zsd hx hyb) (by simp; omega) ?_
  clear hO
  intro H hO
  refine zed hO (Γ.length+0) (zCa (zwa rfl)) rfl (show 0+32≤32 by omega) (show (by8 (sha (xs++ys))).all oneCell=true by simp[oneCell]) ?_
  clear hO
  intro H hO
  rw[List.set_append_left _ _ (by simp),Go.Ab.set_r] at hO
  refine zua hO (Γ.length+0) (zCa (zwa rfl)) (show _=by8 (sha (xs++ys)) from rfl) rfl (by omega) ?_
  exact hk H hO.left.left
set_option maxHeartbeats 1000000 in
theorem zCw{q c:Nat}(hO:St H Γ)(hv:RdB Γ v key)(hq:Γ[j]?=some (q,(⟨[x],true⟩:Blk)))(hx:RdB Γ x ms)(hb:∀ x ∈ key,0≤x∧x≤255)(hm:∀ x ∈ ms,0≤x∧x≤255)(hl:key.length≤80000000)(hl2:ms.length≤8000000)
  (hk:∀ H',St H' Γ→K (agg (by8 (zPp key ms))) H'):wCall P zxl [v,sl q 0 1 c] H K:=by
 apply zPy; unfold zyB
 rw[zQu]
 refine zeb hO ?_
 clear hO
 intro p4 H hO
 refine zyo hO ?_
 clear hO
 intro H pd hO
 have hd:Dg pd [] (DG pd (dSt []) zqa ([]:List Int).length []):=⟨zqa,[],rfl,.inl ⟨rfl,rfl,rfl⟩⟩
 generalize (DG pd (dSt []) zqa ([]:List Int).length [])=L at *
 refine zRp (m:=54) (by omega) hO hv.app.app hb hl ?_
 clear hO
 intro H q1 hO
 have hO2:=swp hO
 refine zKf hO2 hd (w:=sl q1 0 64 3) (ys:=zpq key 54) (zpE 0 rfl (.inr rfl) zYb) (by intro x hx; cases hx) (zbn (by omega) hb) (by simp) (by rw[zYb]; omega) ?_
 clear hO hO2 hd
 intro H L hO hd
 replace hd:Dg pd (zpq key 54) L:=hd
 replace hO:=drp hO
 refine zva zCf ?_
 refine zGq (fun k l' H'=>∃ (y:Nat) (L:List (Nat × Blk)),y≤1∧k=1 - y∧l'=[v,ptr p4 0,ptr pd 0,sl q 0 1 c,int 1,int y]∧St H' ((Γ++[(p4,⟨List.replicate 32 (zsb .u8 0),true⟩)])++L)∧Dg pd (zpq key 54++([ms].take y).flatten) L) _ _ ?_ 1 _ _ ⟨0,L,by omega,rfl,rfl,hO,by simpa using hd⟩
 clear hO hd
 rintro k l' H ⟨y,L,hy,rfl,rfl,hO,hd⟩
 unfold zAr
 try simp only[zia,zja]
 refine zaa zMa ?_
 refine zma (fun h=>?_) (fun h=>?_)
 ·have hy0:y=0:=by omega
  subst hy0
  refine zaa (zqb (by omega) (by omega)) ?_
  refine zoa hO j (zCa (zCa hq)) (v:=x) rfl ?_
  refine zKf hO hd hx.app (by simpa using zbn (by omega) hb) hm (by simp[zYb]) (by omega) ?_
  clear hO hd
  intro H L hO hd
  repeat (first|refine oi ?_|refine ow ?_|refine wy ?_|refine wn ?_|refine wt ?_|refine wf' ?_|refine cy ?_|refine cn ?_)
  exact⟨0,by omega,1,L,by omega,rfl,rfl,hO,by simpa using hd⟩
 ·have hy0:y=1:=by omega
  subst hy0
  replace hd:Dg pd (zpq key 54++ms) L:=by simpa using hd
  refine zZa rfl ?_
  try simp only[zia,zja]
  refine zdm hO hd (zsd (zbn (by omega) hb) hm) (by simp[zYb]; omega) ?_
  clear hO
  intro H hO
  replace hO:=hO.left
  refine nw hO ?_
  clear hO
  intro p8 H hO
  refine sw hO 1 rfl (by simp) (by simp[zFb]) (zad _) ?_
  clear hO
  intro H1 hO1
  refine zRp (m:=92) (by omega) hO1 hv.app hb hl ?_
  intro H q2 hO
  refine zaa (zUf hO (Γ.length+1) (zCa (zwa rfl)) (by omega) (by simp[zFb])) ?_
  refine⟨zcb hO1 (Γ.length+1) (zwa rfl) hO (Γ.length+1) (zCa (zwa rfl)) (zae _),?_⟩
  refine zDa hO (zsI _ _ _ _ _ _ _) ?_
  clear hO
  intro q3 H hO
  replace hO:=hO.as.as
  refine zNB (j:=Γ.length+3) (xs:=zpq key 92) (ys:=sha (zpq key 54++ms)) hO (zwa rfl) (zpE 2 rfl (.inr rfl) zYb) (zpE 1 rfl (.inr rfl) zFb) (zbn (by omega) hb) zIr (by rw[zYb]; omega) (by rw[zFb]; omega) ?_
  clear hO
  intro H hO
  refine sw hO 0 rfl (by simp) (by simp[zFb]) (zad _) ?_
  clear hO
  intro H hO
  refine lw hO 0 rfl (by simp[zFb]) (by omega) ?_
  exact hk H hO.left
theorem zVG{a b:Nat}:a ||| b=0↔a=0∧b=0:=by
 constructor
 ·intro h
  constructor
  ·apply Nat.eq_of_testBit_eq; intro i
   have:=congrArg (·.testBit i) h
   simp at this
   simp[this.1]
  ·apply Nat.eq_of_testBit_eq; intro i
   have:=congrArg (·.testBit i) h
   simp at this
   simp[this.2]
 ·rintro⟨rfl,rfl⟩; rfl
theorem zrE{a b:Nat}:a ^^^ b=0↔a=b:=by
 constructor
 ·intro h
  apply Nat.eq_of_testBit_eq; intro i
  have:=congrArg (·.testBit i) h
  simp at this
  exact this
 ·rintro rfl; exact Nat.xor_self _
theorem zVu{a b:List Int}{y:Nat}(ha:y < a.length)(hb:y < b.length):a.take (y+1)=b.take (y+1)↔a.take y=b.take y∧a[y]=b[y]:=by
 rw[List.take_succ_eq_append_getElem ha,List.take_succ_eq_append_getElem hb]
 constructor
 ·intro h
  have:=List.append_inj h (by simp; omega)
  exact⟨this.1,by simpa using this.2⟩
 ·rintro⟨h1,h2⟩; rw[h1,h2]
theorem zet{a b:List Int}(ha:a.length=32)(hb:b.length=32)(ba:∀ x ∈ a,0≤x∧x≤255)(bb:∀ x ∈ b,0≤x∧x≤255)(hO:St H Γ)
  (hk:∀ H',St H' Γ→K (.bool (decide (a=b))) H'):wCall P zXh [agg (by8 a),agg (by8 b)] H K:=by
 apply zCu; unfold zBu
 refine nw hO.z ?_
 clear hO
 intro p2 H hO
 refine nw hO ?_
 clear hO
 intro p3 H hO
 replace hO:St H (Γ++[(p2,⟨by8 a,true⟩),(p3,⟨by8 b,true⟩)]):=hO
 refine zZn (fun k l' H'=>∃ (y d:Nat),y≤32∧k=32 - y∧l'=[ptr p2 0,ptr p3 0,.bool false,zsb .u8 d,int y]∧H'=H∧d < 256∧(d=0↔a.take y=b.take y)) _ _ ?_ 32 _ _ ⟨0,0,by omega,by omega,rfl,rfl,by omega,by simp⟩
 rintro k l' H' ⟨y,d,hy,rfl,rfl,rfl,hd,hi⟩
 unfold zHn
 try simp only[zia,zja]
 refine zaa zMa ?_
 refine zma (fun h=>?_) (fun h=>?_)
 ·have hy:y < 32:=by omega
  have ga:=ba _ (List.getElem_mem (show y < a.length by omega))
  have gb:=bb _ (List.getElem_mem (show y < b.length by omega))
  repeat (first|refine oi ?_|refine ow ?_|refine wy ?_|refine wn ?_|refine wt ?_|refine wf' ?_|refine cy ?_|refine cn ?_)
  refine ld hO 0 rfl (v:=.int .u8 a[y]) (by rw[show 0+(y:Int).toNat * 1=y by omega]; simp[by8]) ?_
  repeat (first|refine oi ?_|refine ow ?_|refine wy ?_|refine wn ?_|refine wt ?_|refine wf' ?_|refine cy ?_|refine cn ?_)
  refine ld hO 1 rfl (v:=.int .u8 b[y]) (by rw[show 0+(y:Int).toNat * 1=y by omega]; simp[by8]) ?_
  rw[zOk ga.1,zOk gb.1]
  have x1:a[y].toNat ^^^ b[y].toNat < 256:=Nat.xor_lt_two_pow (n:=8) (by omega) (by omega)
  refine zaa (zQb (k:=.u8) rfl (show _ < 256 by omega) (show _ < 256 by omega)) ?_
  refine zaa (zNk (k:=.u8) rfl (show _ < 256 by omega) (show _ < 256 from x1)) ?_
  repeat (first|refine oi ?_|refine ow ?_|refine wy ?_|refine wn ?_|refine wt ?_|refine wf' ?_|refine cy ?_|refine cn ?_)
  refine⟨_,?_,y+1,_,by omega,rfl,rfl,rfl,Nat.or_lt_two_pow (n:=8) hd x1,?_⟩
  ·omega
  ·rw[zVG,zrE,zVu (by omega) (by omega),hi]
   constructor
   ·rintro⟨h1,h2⟩; exact⟨h1,by omega⟩
   ·rintro⟨h1,h2⟩; exact⟨h1,by rw[h2]⟩
 ·have e:y=32:=by omega
  subst e
  rw[List.take_of_length_le (by omega),List.take_of_length_le (by omega)] at hi
  refine zZa rfl ?_
  try simp only[zia,zja]
  refine zaa (zQD (k:=.u8) (b:=0)) ?_
  have:=hk _ hO.left
  rw[decide_eq_decide.2 hi]; exact this
end J
set_option maxRecDepth 100000
namespace J
open Go Go.Ab
variable{H:Heap}{Γ Γ0 Γ2 Δ G L:List (Nat × Blk)}{K:VH}{v w x:Value}{xs ys zs bs b key ms:List Int}{j p q o n k:Nat}{e:Int}{cs cs':List Value}
theorem zWu{k:List Int}{w y:Nat}(h:y < 64):(zpq k w).take (y+1)=(zpq k w).take y++[zNz ((zDk k).getD y 0) w]:=by
 rw[List.take_succ_eq_append_getElem (by rw[zYb]; exact h)]
 congr 2
 simp[zpq]
set_option maxHeartbeats 2000000 in
theorem zaz(hO:St H Γ)(hv:RdB Γ v key)(hx:RdB Γ x ms)(hb:∀ x ∈ key,0≤x∧x≤255)(hm:∀ x ∈ ms,0≤x∧x≤255)(hl:key.length≤80000000)(hl2:ms.length≤8000000)
  (hk:∀ H',St H' Γ→K (agg (by8 (zPp key ms))) H'):wCall P zVh [v,x] H K:=by
 apply zyu; unfold zxu
 rw[zQu]
 refine zeb hO ?_
 clear hO
 intro p4 H hO
 refine zxa (fun l' H'=>∃ (v':Value) (B:List (Nat × Blk)),l'=[v',x,ptr p4 0]∧St H' ((Γ++B)++[(p4,⟨List.replicate 32 (zsb .u8 0),true⟩)])∧RdB (Γ++B) v' (zDk key)) ?_ ?_
 ·refine zva hv.lenSl ?_
  refine zaa zTb ?_
  refine zma (fun h=>?_) (fun h=>?_)
  ·refine zgg hO hv.app hb hl ?_
   clear hO
   intro H hO
   refine nw hO ?_
   clear hO
   intro p5 H hO
   refine sw hO 1 rfl (by simp) (by simp[zFb]) (zad _) ?_
   clear hO
   intro H hO
   refine zaa (sar hO 1 rfl (by simp[zFb]) (by omega)) ?_
   replace hO:St H (Γ++([(p4,⟨List.replicate 32 (zsb .u8 0),true⟩)]++[(p5,⟨by8 (sha key),true⟩)])):=hO
   rw[← List.append_assoc] at hO
   refine⟨_,_,rfl,hO.rot,?_⟩
   rw[show zDk key=sha key from if_pos (by omega)]
   exact zpE 0 rfl (.inr rfl) zFb
  ·refine⟨v,[],rfl,by rw[List.append_nil]; exact hO,?_⟩
   rw[show zDk key=key from if_neg (by omega)]
   exact hv.app
 clear hO
 rintro l' H ⟨v',B,rfl,hO,hr⟩
 try simp only[zia,zja]
 replace hx:=hx.app (Δ:=B)
 replace hk:∀ H',St H' (Γ++B)→K (agg (by8 (zPp key ms))) H':=fun H' h=>hk H' h.left
 generalize Γ++B=Γ at *
 have hkl:=zdt key
 refine zDa hO (zYl _) ?_
 clear hO
 intro q1 H hO
 refine zDa hO (zYl _) ?_
 clear hO
 intro q2 H hO
 refine zYn (fun k l' H'=>∃ (y:Nat) (v1 v2:Value) (c1 c2:List Value),y≤64∧k=64 - y∧l'=[v',x,ptr p4 0,v1,v2,int y]∧St H' (((Γ++[(p4,⟨List.replicate 32 (zsb .u8 0),true⟩)])++zKa v1 c1)++zKa v2 c2)∧OwnB v1 ((zpq key 54).take y) c1∧OwnB v2 ((zpq key 92).take y) c2) _ _ ?_ 64 _ _
  ⟨0,sl q1 0 0 3,sl q2 0 0 3,[],[],by omega,by omega,rfl,hO,.inr ⟨q1,.inr ⟨rfl,rfl⟩,rfl,Nat.zero_le _,rfl⟩,.inr ⟨q2,.inr ⟨rfl,rfl⟩,rfl,Nat.zero_le _,rfl⟩⟩
 clear hO
 rintro k l' H ⟨y,v1,v2,c1,c2,hy,rfl,rfl,hO,o1,o2⟩
 unfold zFn
 try simp only[zia,zja]
 refine zaa zMa ?_
 refine zma (fun h=>?_) (fun h=>?_)
 ·have hy:y < 64:=by omega
  have hg:=zrd (zQp hb) y
  refine zxa (fun l' H'=>l'=[v',x,ptr p4 0,v1,v2,int y,zsb .u8 ((zDk key).getD y 0).toNat]∧H'=H) ?_ ?_
  ·refine zva hr.lenSl ?_
   refine zaa zMa ?_
   refine zma (fun h=>?_) (fun h=>?_)
   ·refine zMq hO hr.app.app.app (zQp hb) (n:=y) rfl (by omega) ?_
    exact⟨rfl,rfl⟩
   ·refine⟨?_,rfl⟩
    rw[List.getD_eq_getElem?_getD,List.getElem?_eq_none (by omega)]; rfl
  rintro l' H' ⟨rfl,rfl⟩
  try simp only[zia,zja]
  have x1:=zAw hg (w:=54) (by omega)
  have x2:=zAw hg (w:=92) (by omega)
  refine zaa (zQb (k:=.u8) (b:=54) rfl hg (show _ < 256 by omega)) ?_
  refine zDa hO (zJx _ _ _) ?_
  clear hO
  intro q3 H hO
  replace hO:St H (((Γ++[(p4,⟨List.replicate 32 (zsb .u8 0),true⟩)])++zKa v1 c1++zKa v2 c2)++[(q3,⟨by8 [zNz ((zDk key).getD y 0) 54],true⟩)]):=hO
  replace hO:St H (((Γ++[(p4,⟨List.replicate 32 (zsb .u8 0),true⟩)])++zKa v2 c2++zKa v1 c1)++[(q3,⟨by8 [zNz ((zDk key).getD y 0) 54],true⟩)]):=hO.perm (by classical exact List.perm_iff_count.2 fun _=>by simp only[List.count_append,List.count_nil,List.set_cons_zero]; omega)
  refine zwd hO o1 (by simp[zYb]; omega) rfl (.inr rfl) ?_
  clear hO
  intro H v3 c3 hO o3
  rw[← zWu hy] at o3
  refine zaa (zQb (k:=.u8) (b:=92) rfl hg (show _ < 256 by omega)) ?_
  refine zDa hO (zJx _ _ _) ?_
  clear hO
  intro q4 H hO
  replace hO:St H (((Γ++[(p4,⟨List.replicate 32 (zsb .u8 0),true⟩)])++zKa v2 c2++zKa v3 c3)++[(q4,⟨by8 [zNz ((zDk key).getD y 0) 92],true⟩)]):=hO
  replace hO:St H (((Γ++[(p4,⟨List.replicate 32 (zsb .u8 0),true⟩)])++zKa v3 c3++zKa v2 c2)++[(q4,⟨by8 [zNz ((zDk key).getD y 0) 92],true⟩)]):=hO.perm (by classical exact List.perm_iff_count.2 fun _=>by simp only[List.count_append,List.count_nil,List.set_cons_zero]; omega)
  refine zwd hO o2 (by simp[zYb]; omega) rfl (.inr rfl) ?_
  clear hO
  intro H v4 c4 hO o4
  rw[← zWu hy] at o4
  repeat (first|refine oi ?_|refine ow ?_|refine wy ?_|refine wn ?_|refine wt ?_|refine wf' ?_|refine cy ?_|refine cn ?_)
  exact⟨64 - (y+1),by omega,y+1,v3,v4,c3,c4,by omega,rfl,rfl,hO,o3,o4⟩
 ·have e:y=64:=by omega
  subst e
  rw[List.take_of_length_le (by rw[zYb]; omega)] at o1 o2
  refine zZa rfl ?_
  try simp only[zia,zja]
  replace hO:=hO.rot
  refine zEc hO o1 hx.app.app (by rw[zYb]; omega) ?_
  clear hO
  intro H v3 c3 hO o3
  refine zgg hO o3.rd.app' (zsd (zbn (by omega) hb) hm) (by simp[zYb]; omega) ?_
  clear hO
  intro H hO
  replace hO:=hO.left
  refine zeb hO ?_
  clear hO
  intro p5 H hO
  refine zya hO (_+0) (zwa rfl) (by simp) (by simp[zFb]) (zad _) ?_
  clear hO
  intro H hO
  replace hO:=hO.set_r
  refine zaa (zUf hO (_+0) (zwa rfl) (by omega) (by simp[zFb])) ?_
  refine zwd (ys:=sha (zpq key 54++ms)) hO o2 (by simp[zYb,zFb]) (by rw[zFb]) (.inr rfl) ?_
  clear hO
  intro H v4 c4 hO o4
  refine zgg hO o4.rd.app' (zsd (zbn (by omega) hb) zIr) (by simp[zYb,zFb]) ?_
  clear hO
  intro H hO
  replace hO:=hO.left
  refine sw hO 0 rfl (by simp) (by simp[zFb]) (zad _) ?_
  clear hO
  intro H hO
  refine lw hO 0 rfl (by simp[zFb]) (by omega) ?_
  exact hk H hO.left
end J
