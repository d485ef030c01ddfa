/- texts of the proof, one behind the other -/
import Derived.Test.YtmnbcjhjkahajaaDoorUC
set_option linter.unusedSectionVars false
set_option linter.unusedVariables false
set_option linter.unusedSimpArgs false
set_option maxRecDepth 100000
namespace J
open Go Go.Ab
variable{H:Heap}{Γ Γ0 Γ2 Δ G:List (Nat × Blk)}{K:VH}{v w x:Value}{xs ys zs bs b data:List Int}{j p pd pz:Nat}{e:Int}{cs:List Value}
abbrev u64(n:Nat):Value:=zsb .u64 n
theorem zgm{t:TypeId}{c:Bool}{a b:Nat}(h:a+b < 18446744073709551616):(zma P .add t c).f (u64 a) (u64 b)=some (u64 (a+b)):=by
 rw[zxc (k:=.u64) rfl,Nat.mod_eq_of_lt (show a+b < szU .u64 from h)]
theorem zeB{t:TypeId}{c:Bool}{a b:Nat}(hb:0 < b)(ha:a < 9223372036854775807):(zma P .quo t c).f (int a) (int b)=some (int ((a / b:Nat):Int)):=by
 rw[zic _ _ rfl]
 show (match eqB (b:Int) 0 with|true=>none|false=>some (Value.int .i64 (zfc .i64 ((a:Int).tdiv b))))=_
 rw[zLf,decide_eq_false (by omega)]
 show some (Value.int .i64 (zfc .i64 ((a / b:Nat):Int)))=_
 have h1:((a / b:Nat):Int)≤(a:Int):=Int.ofNat_le.2 (Nat.div_le_self a b)
 have h2:(0:Int)≤((a / b:Nat):Int):=Int.natCast_nonneg _
 generalize ((a / b:Nat):Int)=q at *
 rw[zVo (by omega) (by omega)]
theorem ztc{a n:Nat}(ha:a < 4294967296)(hn:0 < n)(hn2:n < 32)(hk:K (u64 (rr a n)) H):wCall P zeb [u64 a,u64 n] H K:=by
 apply zDo; unfold zEn
 have e64:szU .u64=18446744073709551616:=rfl
 have hp:2 ^ (32 - n)≤2 ^ 31:=Nat.pow_le_pow_right (by omega) (by omega)
 have hm:a * 2 ^ (32 - n) < 18446744073709551616:=Nat.lt_of_le_of_lt (Nat.mul_le_mul (Nat.le_of_lt ha) hp) (by decide)
 have hd:a / 2 ^ n < 4294967296:=Nat.lt_of_le_of_lt (Nat.div_le_self _ _) ha
 refine zaa (zce (k:=.u64) rfl (show n≤64 by omega)) ?_
 refine zaa (v:=u64 (32 - n)) (by rw[show (Value.int .u64 32)=zsb .u64 32 from rfl,zfq rfl (by omega) (by decide)]) ?_
 refine zaa (zdi (k:=.u64) rfl (show 32 - n≤64 by omega)) ?_
 rw[Nat.mod_eq_of_lt (show a * 2 ^ (32 - n) < szU .u64 from hm)]
 refine zaa (zaj (k:=.u64) rfl (show _ < 18446744073709551616 by omega) hm) ?_
 refine zaa (zof (k:=.u64) (b:=4294967296) (by decide)) ?_
 have e:(a / 2 ^ n ||| a * 2 ^ (32 - n)) % 4294967296=rr a n:=by
  unfold rr
  rw[show (4294967296:Nat)=2 ^ 32 from rfl,Nat.or_mod_two_pow,Nat.mod_eq_of_lt (show a / 2 ^ n < 2 ^ 32 from hd)]
 rw[e]; exact hk
def wM(w:List Nat)(n:Nat):List Value:=(w.map fun (n:Nat)=>u64 n)++u64 n::List.replicate (63 - w.length) (u64 0)
def wL(w:List Nat):List Value:=(w.map fun (n:Nat)=>u64 n)++List.replicate (64 - w.length) (u64 0)
theorem zQz{w:List Nat}{n:Nat}(h:w.length≤63):(wM w n).length=64:=by simp[wM]; omega
theorem zux{w:List Nat}(h:w.length≤63):wM w 0=wL w:=by
 unfold wM wL
 obtain⟨m,hm⟩:∃ m,64 - w.length=m+1:=⟨63 - w.length,by omega⟩
 rw[hm,List.replicate_succ,show 63 - w.length=m by omega]
theorem zvx{w:List Nat}{n:Nat}(h:w.length≤63):wM w n=wL (w++[n]):=by
 unfold wM wL
 rw[List.length_append,show 64 - (w.length+[n].length)=63 - w.length by show 64 - (w.length+1)=_; omega]
 simp
theorem ztD{w:List Nat}{n:Nat}:(wM w n)[w.length]?=some (u64 n):=by
 unfold wM
 rw[List.getElem?_append_right (by simp)]
 simp
theorem zRz{w:List Nat}{n n':Nat}:(wM w n).set w.length (u64 n')=wM w n':=by
 unfold wM
 rw[List.set_append_right _ _ (by simp)]
 simp
theorem zDC{w:List Nat}{i:Nat}(h:i < w.length):(wL w)[i]?=some (u64 (w.getD i 0)):=by
 unfold wL
 rw[List.getElem?_append_left (by simpa using h)]
 simp[h]
theorem zTr{w:List Nat}:(wL w).all zpb=true:=by simp[wL,zpb,zMc]
def zUr(b:List Int)(t:Nat):Nat→Nat
 | 0=>0
 | y+1=>256 * zUr b t y+(b.getD (4 * t+y) 0).toNat
theorem zfB{b:List Int}{t:Nat}:zUr b t 4=zPr b t:=by
 show 256 * (256 * (256 * (256 * 0+(b.getD (4 * t+0) 0).toNat)+(b.getD (4 * t+1) 0).toNat)+(b.getD (4 * t+2) 0).toNat)+(b.getD (4 * t+3) 0).toNat=_
 unfold zPr
 rw[Nat.add_zero]
 omega
theorem zju{b:List Int}(h:∀ x ∈ b,0≤x∧x≤255)(t:Nat):∀ y,zUr b t y < 256 ^ y
 | 0=>Nat.zero_lt_one
 | y+1=>by
  show 256 * zUr b t y+_ < 256 ^ (y+1)
  have h1:=zju h t y
  have h2:=zFc h (4 * t+y)
  rw[Nat.pow_succ]
  omega
theorem zkz{m i:Nat}(h:i < 64):((data.drop (64 * m)).take 64).getD i 0=data.getD (64 * m+i) 0:=by
 rw[List.getD_eq_getElem?_getD,List.getD_eq_getElem?_getD,List.getElem?_take_of_lt h,List.getElem?_drop]
theorem zYD{p2 p7 p8 p10 m t:Nat}{ws:List Nat}{Qx:LX}{Qr:LN}(hv:RdB Γ v data)(hb:∀ x ∈ data,0≤x∧x≤255)(hm:64 * m+64≤data.length)(hl:data.length≤1000000000)(ht:t < 16)(hw:ws.length=t)
  (hO:St H (Γ++[(p10,⟨wL ws,true⟩)]))
  (hk:∀ H',St H' (Γ++[(p10,⟨wL (ws++[zPr ((data.drop (64 * m)).take 64) t]),true⟩)])→Qx 8 [ptr p2 0,v,ptr p7 0,ptr p8 0,int ((64 * m:Nat):Int),ptr p10 0,int t] H') :
  zob P true 252 zEh 3980 [ptr p2 0,v,ptr p7 0,ptr p8 0,int ((64 * m:Nat):Int),ptr p10 0,int t,int 0] H Qx Qr:=by
 have hbb:∀ x ∈ (data.drop (64 * m)).take 64,0≤x∧x≤255:=fun x hx=>hb x (List.mem_of_mem_drop (List.mem_of_mem_take hx))
 rw[← zux (by omega)] at hO
 refine zcm (fun k l' H'=>∃ (y:Nat),y≤4∧k=4 - y∧l'=[ptr p2 0,v,ptr p7 0,ptr p8 0,int ((64 * m:Nat):Int),ptr p10 0,int t,int y]∧St H' (Γ++[(p10,⟨wM ws (zUr ((data.drop (64 * m)).take 64) t y),true⟩)])) _ _ ?_ 4 _ _ ⟨0,by omega,rfl,rfl,hO⟩
 clear hO
 rintro k l' H ⟨y,hy,rfl,rfl,hO⟩
 unfold zJl
 try simp only[zea,zfa]
 refine zaa zNa ?_
 refine zia (fun h=>?_) (fun h=>?_)
 ·have hy4:y < 4:=by omega
  have hp:=zju hbb t y
  have hp3:256 ^ y≤256 ^ 3:=Nat.pow_le_pow_right (by omega) (by omega)
  have hp4:(256:Nat) ^ 3=16777216:=rfl
  have g:=zFc hb (64 * m+(4 * t+y))
  refine zaa (zpa (by omega) (by omega)) ?_
  rw[Int.toNat_natCast]
  refine zla hO (Γ.length+0) (zxa rfl) (v:=u64 (zUr ((data.drop (64 * m)).take 64) t y)) (by rw[show 0+t * 1=ws.length by omega]; exact ztD) ?_
  refine zaa (v:=u64 (256 * zUr ((data.drop (64 * m)).take 64) t y)) (by
   rw[show (Value.int .u64 256)=zsb .u64 256 from rfl,zDj (k:=.u64) rfl,Nat.mod_eq_of_lt (show _ < szU .u64 from (show _ < 18446744073709551616 by omega))]) ?_
  refine zaa (v:=int ((4 * t:Nat):Int)) (by rw[znf (by omega) (by omega)]; congr 2 <;> omega) ?_
  refine zaa (v:=int ((64 * m+4 * t:Nat):Int)) (by rw[zvd (by omega) (by omega)]; congr 2 <;> omega) ?_
  refine zaa (v:=int ((64 * m+(4 * t+y):Nat):Int)) (by rw[zvd (by omega) (by omega)]; congr 2 <;> omega) ?_
  refine zFo hO hv.app hb rfl (by omega) ?_
  refine zra (cvU (k':=.u64) rfl) ?_
  rw[Nat.mod_eq_of_lt (show (data.getD (64 * m+(4 * t+y)) 0).toNat < szU .u64 from (show _ < 18446744073709551616 by omega))]
  refine zaa (zgm (by omega)) ?_
  refine zaa (zpa (by omega) (by omega)) ?_
  rw[Int.toNat_natCast]
  refine zKa hO (Γ.length+0) (zxa rfl) rfl (by rw[zQz (by omega)]; omega) (show _=wM ws (zUr ((data.drop (64 * m)).take 64) t (y+1)) from ?_) ?_
  ·rw[show 0+t * 1=ws.length by omega,zRz]
   show _=wM ws (256 * _+_)
   rw[zkz (by omega)]
  clear hO
  intro H hO
  replace hO:=hO.set_r
  repeat (first|refine oi ?_|refine ow ?_|refine wy ?_|refine wn ?_|refine wt ?_|refine wf' ?_|refine cy ?_|refine cn ?_)
  exact⟨4 - (y+1),by omega,y+1,by omega,rfl,rfl,hO⟩
 ·have hy:y=4:=by omega
  subst hy
  rw[zfB,zvx (by omega)] at hO
  exact hk H hO
theorem zEC{x a b:Nat}:zff x [a,b]=rr x a ^^^ rr x b:=by
 show (0 ^^^ rr x a) ^^^ rr x b=_
 rw[Nat.zero_xor]
theorem zFC{x a b c:Nat}:zff x [a,b,c]=(rr x a ^^^ rr x b) ^^^ rr x c:=by
 show ((0 ^^^ rr x a) ^^^ rr x b) ^^^ rr x c=_
 rw[Nat.zero_xor]
theorem zOi{a:Nat}(h:a < 4294967296):a < szU .u64:=Nat.lt_trans h (by decide)
set_option maxHeartbeats 2000000 in
theorem zZD{p2 p7 p8 p10 m:Nat}{Qx:LX}{Qr:LN}(hv:RdB Γ v data)(hb:∀ x ∈ data,0≤x∧x≤255)(hm:64 * m+64≤data.length)(hl:data.length≤1000000000)
  (hO:St H (Γ++[(p10,⟨wL [],true⟩)]))
  (hk:∀ H',St H' (Γ++[(p10,⟨wL (wUp ((data.drop (64 * m)).take 64) 64),true⟩)])→Qx 6 [ptr p2 0,v,ptr p7 0,ptr p8 0,int ((64 * m:Nat):Int),ptr p10 0] H') :
  zob P true 252 zDh 1932 [ptr p2 0,v,ptr p7 0,ptr p8 0,int ((64 * m:Nat):Int),ptr p10 0,int 0] H Qx Qr:=by
 have hbb:∀ x ∈ (data.drop (64 * m)).take 64,0≤x∧x≤255:=fun x hx=>hb x (List.mem_of_mem_drop (List.mem_of_mem_take hx))
 refine zZl (fun k l' H'=>∃ (y:Nat),y≤64∧k=64 - y∧l'=[ptr p2 0,v,ptr p7 0,ptr p8 0,int ((64 * m:Nat):Int),ptr p10 0,int y]∧St H' (Γ++[(p10,⟨wL (wUp ((data.drop (64 * m)).take 64) y),true⟩)])) _ _ ?_ 64 _ _ ⟨0,by omega,rfl,rfl,hO⟩
 clear hO
 rintro k l' H ⟨y,hy,rfl,rfl,hO⟩
 unfold zGl
 try simp only[zea,zfa]
 have hwl:=zJn (b:=(data.drop (64 * m)).take 64) y
 have es:wUp ((data.drop (64 * m)).take 64) (y+1)=wUp ((data.drop (64 * m)).take 64) y++[zfk ((data.drop (64 * m)).take 64) (wUp ((data.drop (64 * m)).take 64) y) y]:=rfl
 have hlt:∀ i,(wUp ((data.drop (64 * m)).take 64) y).getD i 0 < 4294967296:=getD_lt (zRr hbb y)
 refine zaa zNa ?_
 refine zia (fun h=>?_) (fun h=>?_)
 ·refine zaa zNa ?_
  refine zia (fun h16=>?_) (fun h16=>?_)
  ·refine zYD hv hb hm hl (by omega) hwl hO ?_
   clear hO
   intro H hO
   refine zSa rfl ?_
   try simp only[zea,zfa]
   repeat (first|refine oi ?_|refine ow ?_|refine wy ?_|refine wn ?_|refine wt ?_|refine wf' ?_|refine cy ?_|refine cn ?_)
   refine⟨64 - (y+1),by omega,y+1,by omega,rfl,rfl,?_⟩
   rw[es,show zfk ((data.drop (64 * m)).take 64) (wUp ((data.drop (64 * m)).take 64) y) y=zPr ((data.drop (64 * m)).take 64) y by unfold zfk; rw[if_pos (by omega)]]
   exact hO
  ·generalize hws:wUp ((data.drop (64 * m)).take 64) y=ws at *
   have ld:∀ {i:Nat} {K:VH},i < y→K (u64 (ws.getD i 0)) H→opW (zba (ptr p10 (0+i * 1)) H) K:=fun {i K} hi hk=>zla hO (Γ.length+0) (zxa rfl) (v:=u64 (ws.getD i 0)) (by rw[show 0+i * 1=i by omega]; exact zDC (by omega)) hk
   have sm:∀ {o:Nat},zgb (zcb H H) (zDa [ptr p10 o]):=zjc hO (Γ.length+0) (zxa rfl) hO (Γ.length+0) (zxa rfl) zTr
   refine zaa (zMb (by omega) (by omega)) ?_
   refine zaa (zpa (by omega) (by omega)) ?_
   rw[show ((y:Int) - 15).toNat=y - 15 by omega]
   refine ld (by omega) ?_
   refine zaa (zMb (by omega) (by omega)) ?_
   refine zaa (zpa (by omega) (by omega)) ?_
   rw[show ((y:Int) - 2).toNat=y - 2 by omega]
   refine ld (by omega) ?_
   refine zaa (zMb (by omega) (by omega)) ?_
   refine zaa (zpa (by omega) (by omega)) ?_
   rw[show ((y:Int) - 16).toNat=y - 16 by omega]
   refine ld (by omega) ?_
   refine ztc (n:=7) (hlt _) (by omega) (by omega) ?_
   refine⟨sm,?_⟩
   refine ztc (n:=18) (hlt _) (by omega) (by omega) ?_
   refine⟨sm,?_⟩
   have b1:=zfm (n:=7) (hlt (y - 15))
   have b2:=zfm (n:=18) (hlt (y - 15))
   have b3:=zfm (n:=17) (hlt (y - 2))
   have b4:=zfm (n:=19) (hlt (y - 2))
   have b5:ws.getD (y - 15) 0 / 2 ^ 3 < 4294967296:=Nat.lt_of_le_of_lt (Nat.div_le_self _ _) (hlt _)
   have b6:ws.getD (y - 2) 0 / 2 ^ 10 < 4294967296:=Nat.lt_of_le_of_lt (Nat.div_le_self _ _) (hlt _)
   refine zaa (ztb (k:=.u64) rfl (zOi b1) (zOi b2)) ?_
   refine zaa (zce (k:=.u64) (n:=3) rfl (by decide)) ?_
   have b7:=Nat.xor_lt_two_pow (n:=32) b1 b2
   refine zaa (ztb (k:=.u64) rfl (zOi b7) (zOi b5)) ?_
   have b8:=Nat.xor_lt_two_pow (n:=32) b7 b5
   have c1:=hlt (y - 16)
   have c2:=hlt (y - 7)
   refine zaa (zgm (by omega)) ?_
   refine zaa (zMb (by omega) (by omega)) ?_
   refine zaa (zpa (by omega) (by omega)) ?_
   rw[show ((y:Int) - 7).toNat=y - 7 by omega]
   refine ld (by omega) ?_
   refine⟨sm,sm,?_⟩
   refine zaa (zgm (by omega)) ?_
   refine ztc (n:=17) (hlt _) (by omega) (by omega) ?_
   refine⟨sm,sm,?_⟩
   refine ztc (n:=19) (hlt _) (by omega) (by omega) ?_
   refine⟨sm,sm,?_⟩
   refine zaa (ztb (k:=.u64) rfl (zOi b3) (zOi b4)) ?_
   refine zaa (zce (k:=.u64) (n:=10) rfl (by decide)) ?_
   have b9:=Nat.xor_lt_two_pow (n:=32) b3 b4
   refine zaa (ztb (k:=.u64) rfl (zOi b9) (zOi b6)) ?_
   have b10:=Nat.xor_lt_two_pow (n:=32) b9 b6
   refine zaa (zgm (by omega)) ?_
   refine zaa (zof (k:=.u64) (b:=4294967296) (by decide)) ?_
   refine zaa (zpa (by omega) (by omega)) ?_
   rw[Int.toNat_natCast]
   rw[← zux (by omega)] at hO
   refine zKa hO (Γ.length+0) (zxa rfl) rfl (by rw[zQz (by omega)]; omega) (show _=wL (ws++[zfk ((data.drop (64 * m)).take 64) ws y]) from ?_) ?_
   ·rw[show 0+y * 1=ws.length by omega,zRz,zvx (by omega)]
    unfold zfk
    rw[if_neg (by omega),zEC,zEC]
   clear hO
   intro H hO
   replace hO:=hO.set_r
   rw[← es] at hO
   repeat (first|refine oi ?_|refine ow ?_|refine wy ?_|refine wn ?_|refine wt ?_|refine wf' ?_|refine cy ?_|refine cn ?_)
   exact⟨64 - (y+1),by omega,y+1,by omega,rfl,rfl,hO⟩
 ·have hy:y=64:=by omega
  subst hy
  exact hk H hO
end J
set_option maxRecDepth 100000
namespace J
open Go Go.Ab
variable{H:Heap}{Γ Γ0 Γ2 Δ G:List (Nat × Blk)}{K:VH}{v w x:Value}{xs ys zs bs b data:List Int}{j p pd pz:Nat}{e:Int}{cs:List Value}
def l8(x:W8):List Value:=x.l.map fun (n:Nat)=>u64 n
theorem zwx(x:W8):(l8 x).all zpb=true:=rfl
theorem b8(a b c d e f g h:Int):(zbb P 145).f [(0,.int .u64 a),(1,.int .u64 b),(2,.int .u64 c),(3,.int .u64 d),(4,.int .u64 e),(5,.int .u64 f),(6,.int .u64 g),(7,.int .u64 h)]=some (agg [.int .u64 a,.int .u64 b,.int .u64 c,.int .u64 d,.int .u64 e,.int .u64 f,.int .u64 g,.int .u64 h]):=by kernel_rfl
theorem zuD{i:Nat}(h:i < 64):(zpi.map fun (n:Nat)=>u64 n)[i]?=some (u64 (zpi.getD i 0)):=by
 have hl:zpi.length=64:=rfl
 simp[hl,h]
theorem zxx:(zpi.map fun (n:Nat)=>u64 n).all zpb=true:=by simp[zpb,zMc]
theorem zgB{t:TypeId}{c:Bool}{a:Nat}:(zma P .rem t c).f (u64 a) (.int .u64 4294967296)=some (u64 (a % 4294967296)):=zof (k:=.u64) (b:=4294967296) (by decide)
set_option maxHeartbeats 4000000 in
theorem zaE{p2 p7 p8 p10 p15 at':Nat}{s:W8}{ws:List Nat}{Qx:LX}{Qr:LN}(hs:s.Ok)(hw:∀ x ∈ ws,x < 4294967296)(hwl:ws.length=64){j8 j10:Nat}(h8:Γ[j8]?=some (p8,⟨zpi.map fun (n:Nat)=>u64 n,true⟩))(h10:Γ[j10]?=some (p10,⟨wL ws,true⟩))
  (hO:St H (Γ++[(p15,⟨l8 s,true⟩)]))
  (hk:∀ H',St H' (Γ++[(p15,⟨l8 (zWs ws s 64),true⟩)])→Qx 10 [ptr p2 0,v,ptr p7 0,ptr p8 0,int at',ptr p15 0] H') :
  zob P true 252 zFh 33676 [ptr p2 0,v,ptr p7 0,ptr p8 0,int at',ptr p10 0,ptr p15 0,int 0] H Qx Qr:=by
 refine zam (fun k l' H'=>∃ (y:Nat),y≤64∧k=64 - y∧l'=[ptr p2 0,v,ptr p7 0,ptr p8 0,int at',ptr p10 0,ptr p15 0,int y]∧St H' (Γ++[(p15,⟨l8 (zWs ws s y),true⟩)])) _ _ ?_ 64 _ _ ⟨0,by omega,rfl,rfl,hO⟩
 clear hO
 rintro k l' H ⟨y,hy,rfl,rfl,hO⟩
 unfold zHl
 try simp only[zea,zfa]
 refine zaa zNa ?_
 refine zia (fun h=>?_) (fun h=>?_)
 rotate_left
 ·have ey:y=64:=by omega
  subst ey
  exact hk _ hO
 have hxo:=zIn (w:=ws) hs y
 have ew:ws.getD y 0 < 4294967296:=getD_lt hw y
 have ek:=zrD y
 have er:zWs ws s (y+1)=zpC (zWs ws s y) (zpi.getD y 0) (ws.getD y 0):=rfl
 generalize zWs ws s y=x at *
 have i15:(Γ++[(p15,(⟨l8 x,true⟩:Blk))])[Γ.length+0]?=some (p15,⟨l8 x,true⟩):=zxa rfl
 have sm:∀ {o:Nat},zgb (zcb H H) (zDa [ptr p15 o]):=zjc hO _ i15 hO _ i15 (zwx x)
 have sm8:∀ {o:Nat},zgb (zcb H H) (zDa [ptr p8 o]):=zjc hO _ (zHa h8) hO _ (zHa h8) zxx
 have sm10:∀ {o:Nat},zgb (zcb H H) (zDa [ptr p10 o]):=zjc hO _ (zHa h10) hO _ (zHa h10) zTr
 have ix:∀ {i:Int} {h:0≤i} {h':i < 8},True:=trivial
 refine zaa (zpa (by omega) (by omega)) ?_
 refine zla hO _ i15 (v:=u64 x.e) rfl ?_
 refine zaa (zpa (by omega) (by omega)) ?_
 refine zla hO _ i15 (v:=u64 x.f) rfl ?_
 refine zaa (zwd (k:=.u64) rfl (zOi hxo.e) (zOi hxo.f)) ?_
 refine zaa (v:=u64 (4294967295 - x.e)) (by
  have:=hxo.e
  rw[show (Value.int .u64 4294967295)=zsb .u64 4294967295 from rfl,zfq rfl (by omega) (by decide)]) ?_
 refine zaa (zpa (by omega) (by omega)) ?_
 refine zla hO _ i15 (v:=u64 x.g) rfl ?_
 refine zaa (zwd (k:=.u64) rfl (zOi (by omega)) (zOi hxo.g)) ?_
 refine zaa (ztb (k:=.u64) rfl (zOi (Nat.and_lt_two_pow (n:=32) _ hxo.f)) (zOi (Nat.and_lt_two_pow (n:=32) _ hxo.g))) ?_
 have hch:chF x.e x.f x.g < 4294967296:=zqC hxo.e hxo.f hxo.g
 rw[show (x.e &&& x.f) ^^^ ((4294967295 - x.e) &&& x.g)=chF x.e x.f x.g from rfl]
 refine zaa (zpa (by omega) (by omega)) ?_
 refine zla hO _ i15 (v:=u64 x.h) rfl ?_
 have b6:=zfm (n:=6) hxo.e
 have b11:=zfm (n:=11) hxo.e
 have b25:=zfm (n:=25) hxo.e
 have b2:=zfm (n:=2) hxo.a
 have b13:=zfm (n:=13) hxo.a
 have b22:=zfm (n:=22) hxo.a
 refine ztc (n:=6) hxo.e (by omega) (by omega) ?_
 refine⟨sm,?_⟩
 refine ztc (n:=11) hxo.e (by omega) (by omega) ?_
 refine⟨sm,?_⟩
 refine zaa (ztb (k:=.u64) rfl (zOi b6) (zOi b11)) ?_
 refine ztc (n:=25) hxo.e (by omega) (by omega) ?_
 refine⟨sm,?_⟩
 refine zaa (ztb (k:=.u64) rfl (zOi (Nat.xor_lt_two_pow (n:=32) b6 b11)) (zOi b25)) ?_
 rw[← zFC]
 have hS1:zff x.e [6,11,25] < 4294967296:=zgk hxo.e
 have hh:=hxo.h
 refine zaa (zgm (by omega)) ?_
 refine zaa (zgm (by omega)) ?_
 refine zaa (zpa (by omega) (by omega)) ?_
 rw[Int.toNat_natCast]
 refine zla hO _ (zHa h8) (v:=u64 (zpi.getD y 0)) (by rw[show 0+y * 1=y by omega]; exact zuD (by omega)) ?_
 refine⟨sm8,sm8,sm8,?_⟩
 refine zaa (zgm (by omega)) ?_
 refine zaa (zpa (by omega) (by omega)) ?_
 rw[Int.toNat_natCast]
 refine zla hO _ (zHa h10) (v:=u64 (ws.getD y 0)) (by rw[show 0+y * 1=y by omega]; exact zDC (by omega)) ?_
 refine⟨sm10,sm10,sm10,?_⟩
 refine zaa (zgm (by omega)) ?_
 refine zaa (zpa (by omega) (by omega)) ?_
 refine zla hO _ i15 (v:=u64 x.a) rfl ?_
 refine zaa (zpa (by omega) (by omega)) ?_
 refine zla hO _ i15 (v:=u64 x.b) rfl ?_
 refine zaa (zwd (k:=.u64) rfl (zOi hxo.a) (zOi hxo.b)) ?_
 refine zaa (zpa (by omega) (by omega)) ?_
 refine zla hO _ i15 (v:=u64 x.a) rfl ?_
 refine zaa (zpa (by omega) (by omega)) ?_
 refine zla hO _ i15 (v:=u64 x.c) rfl ?_
 refine zaa (zwd (k:=.u64) rfl (zOi hxo.a) (zOi hxo.c)) ?_
 have ab:=Nat.and_lt_two_pow (n:=32) x.a hxo.b
 have ac:=Nat.and_lt_two_pow (n:=32) x.a hxo.c
 have bc:=Nat.and_lt_two_pow (n:=32) x.b hxo.c
 refine zaa (ztb (k:=.u64) rfl (zOi ab) (zOi ac)) ?_
 refine zaa (zpa (by omega) (by omega)) ?_
 refine zla hO _ i15 (v:=u64 x.b) rfl ?_
 refine zaa (zpa (by omega) (by omega)) ?_
 refine zla hO _ i15 (v:=u64 x.c) rfl ?_
 refine zaa (zwd (k:=.u64) rfl (zOi hxo.b) (zOi hxo.c)) ?_
 refine zaa (ztb (k:=.u64) rfl (zOi (Nat.xor_lt_two_pow (n:=32) ab ac)) (zOi bc)) ?_
 rw[show ((x.a &&& x.b) ^^^ (x.a &&& x.c)) ^^^ (x.b &&& x.c)=zNA x.a x.b x.c from rfl]
 have hmj:zNA x.a x.b x.c < 4294967296:=zQA hxo.b hxo.c
 refine zaa (zpa (by omega) (by omega)) ?_
 refine zla hO _ i15 (v:=u64 x.a) rfl ?_
 refine ztc (n:=2) hxo.a (by omega) (by omega) ?_
 refine zaa (zpa (by omega) (by omega)) ?_
 refine zla hO _ i15 (v:=u64 x.a) rfl ?_
 refine⟨sm,?_⟩
 refine ztc (n:=13) hxo.a (by omega) (by omega) ?_
 refine zaa (ztb (k:=.u64) rfl (zOi b2) (zOi b13)) ?_
 refine zaa (zpa (by omega) (by omega)) ?_
 refine zla hO _ i15 (v:=u64 x.a) rfl ?_
 refine⟨sm,sm,?_⟩
 refine ztc (n:=22) hxo.a (by omega) (by omega) ?_
 refine zaa (ztb (k:=.u64) rfl (zOi (Nat.xor_lt_two_pow (n:=32) b2 b13)) (zOi b22)) ?_
 rw[← zFC]
 have hS0:zff x.a [2,13,22] < 4294967296:=zgk hxo.a
 have hd:=hxo.d
 refine zaa (zgm (by omega)) ?_
 refine zaa (zgm (by omega)) ?_
 refine zaa zgB ?_
 refine zaa (zpa (by omega) (by omega)) ?_
 refine zla hO _ i15 (v:=u64 x.a) rfl ?_
 refine zaa (zpa (by omega) (by omega)) ?_
 refine zla hO _ i15 (v:=u64 x.b) rfl ?_
 refine zaa (zpa (by omega) (by omega)) ?_
 refine zla hO _ i15 (v:=u64 x.c) rfl ?_
 refine zaa (zpa (by omega) (by omega)) ?_
 refine zla hO _ i15 (v:=u64 x.d) rfl ?_
 refine zaa (zgm (by omega)) ?_
 refine zaa zgB ?_
 refine zaa (zpa (by omega) (by omega)) ?_
 refine zla hO _ i15 (v:=u64 x.e) rfl ?_
 refine zaa (zpa (by omega) (by omega)) ?_
 refine zla hO _ i15 (v:=u64 x.f) rfl ?_
 refine zaa (zpa (by omega) (by omega)) ?_
 refine zla hO _ i15 (v:=u64 x.g) rfl ?_
 refine zaa (b8 _ _ _ _ _ _ _ _) ?_
 refine zsa hO _ i15 rfl rfl rfl ?_
 clear hO sm sm8 sm10
 intro H hO
 replace hO:=hO.set_r
 have e1:(x.h+zff x.e [6,11,25]+chF x.e x.f x.g+zpi.getD y 0+ws.getD y 0+(zff x.a [2,13,22]+zNA x.a x.b x.c)) % 4294967296=(t1F x (zpi.getD y 0) (ws.getD y 0)+t2F x) % 4294967296:=by
  unfold t1F t2F
  rw[← Nat.add_mod]
 have e2:(x.d+(x.h+zff x.e [6,11,25]+chF x.e x.f x.g+zpi.getD y 0+ws.getD y 0)) % 4294967296=(x.d+t1F x (zpi.getD y 0) (ws.getD y 0)) % 4294967296:=by
  unfold t1F
  rw[Nat.add_mod_mod]
 rw[e1,e2] at hO
 repeat (first|refine oi ?_|refine ow ?_|refine wy ?_|refine wn ?_|refine wt ?_|refine wf' ?_|refine cy ?_|refine cn ?_)
 refine⟨64 - (y+1),by omega,y+1,by omega,rfl,rfl,?_⟩
 rw[er]
 exact hO
end J
set_option maxRecDepth 100000
namespace J
open Go Go.Ab
variable{H:Heap}{Γ Γ0 Γ2 Δ G:List (Nat × Blk)}{K:VH}{v w x:Value}{xs ys zs bs b data:List Int}{j p pd pz:Nat}{e:Int}{cs:List Value}
theorem zbE:(zbb P 147).f []=some (agg (wL [])):=by kernel_rfl
theorem zhB:zc P 147=wL []:=by kernel_rfl
theorem zvD:zc P 145=List.replicate 8 (u64 0):=by kernel_rfl
theorem zmv(hO:St H Γ)(hk:∀ H',St H' Γ→K (agg (l8 zPA)) H'):wCall P zAg [] H K:=by
 apply zCo; unfold zCn
 rw[zvD]
 refine zVa hO ?_
 clear hO
 intro p H hO
 refine zaa (v:=agg (l8 zPA)) (by kernel_rfl) ?_
 refine zsa hO (Γ.length+0) (zxa rfl) rfl rfl rfl ?_
 clear hO
 intro H hO
 replace hO:=hO.set_r
 refine zAa hO (Γ.length+0) (zxa rfl) rfl (by omega) ?_
 exact hk _ hO.left
theorem zbt(hO:St H Γ)(hk:∀ H',St H' Γ→K (agg (zpi.map fun (n:Nat)=>u64 n)) H'):wCall P zCf [] H K:=by
 apply zDn; unfold zMl
 rw[zhB]
 refine zVa hO ?_
 clear hO
 intro p H hO
 refine zaa (v:=agg (zpi.map fun (n:Nat)=>u64 n)) (by kernel_rfl) ?_
 refine zsa hO (Γ.length+0) (zxa rfl) rfl rfl rfl ?_
 clear hO
 intro H hO
 replace hO:=hO.set_r
 refine zAa hO (Γ.length+0) (zxa rfl) rfl (by omega) ?_
 exact hk _ hO.left
theorem zGC{s:W8}(h:s.Ok):∀ x ∈ s.l,x < 4294967296:=by
 intro x hx
 simp only[W8.l,List.mem_cons,List.not_mem_nil,or_false] at hx
 rcases hx with rfl|rfl|rfl|rfl|rfl|rfl|rfl|rfl
 ·exact h.a
 ·exact h.b
 ·exact h.c
 ·exact h.d
 ·exact h.e
 ·exact h.f
 ·exact h.g
 ·exact h.h
theorem zcE{s R:W8}{p2 p7 p8 p15 at':Nat}{B:Blk}{T:List (Nat × Blk)}{Qx:LX}{Qr:LN}(hs:s.Ok)(hR:R.Ok)(i15:T[1]?=some (p15,⟨l8 R,true⟩))
  (hO:St H (Γ++([(p7,⟨l8 s,true⟩),(p8,B)]++T)))
  (hk:∀ H',St H' (Γ++([(p7,⟨l8 (zFB s R),true⟩),(p8,B)]++T))→Qx 12 [ptr p2 0,v,ptr p7 0,ptr p8 0,int at'] H') :
  zob P true 252 zGh 908 [ptr p2 0,v,ptr p7 0,ptr p8 0,int at',ptr p15 0,int 0] H Qx Qr:=by
 refine zbm (fun k l' H'=>∃ (y:Nat),y≤8∧k=8 - y∧l'=[ptr p2 0,v,ptr p7 0,ptr p8 0,int at',ptr p15 0,int y]∧St H' (Γ++([(p7,⟨(zat s.l R.l y).map fun (n:Nat)=>u64 n,true⟩),(p8,B)]++T))) _ _ ?_ 8 _ _ ⟨0,by omega,rfl,rfl,hO⟩
 clear hO
 rintro k l' H ⟨y,hy,rfl,rfl,hO⟩
 unfold zIl
 try simp only[zea,zfa]
 have hls:s.l.length=8:=rfl
 have hlR:R.l.length=8:=rfl
 refine zaa zNa ?_
 refine zia (fun h=>?_) (fun h=>?_)
 ·have hy8:y < 8:=by omega
  have b1:s.l.getD y 0 < 4294967296:=getD_lt (zGC hs) y
  have b2:R.l.getD y 0 < 4294967296:=getD_lt (zGC hR) y
  have a1:((zat s.l R.l y).map fun (n:Nat)=>u64 n)[0+y * 1]?=some (u64 (s.l.getD y 0)):=by
   rw[show 0+y * 1=y by omega,List.getElem?_map,zxq (by omega),if_neg (by omega)]; rfl
  have a2:(l8 R)[0+y * 1]?=some (u64 (R.l.getD y 0)):=by
   unfold l8
   rw[show 0+y * 1=y by omega,List.getElem?_map,List.getElem?_eq_getElem (by omega),List.getD_eq_getElem?_getD,List.getElem?_eq_getElem (by omega)]; rfl
  have a3:((zat s.l R.l y).map fun (n:Nat)=>u64 n).set (0+y * 1) (u64 ((s.l.getD y 0+R.l.getD y 0) % 4294967296))=(zat s.l R.l (y+1)).map fun (n:Nat)=>u64 n:=by
   rw[← zgu (by omega),List.map_set,show 0+y * 1=y by omega]
  refine zaa (zpa (by omega) (by omega)) ?_
  rw[Int.toNat_natCast]
  refine zla hO (Γ.length+0) (zxa rfl) a1 ?_
  refine zaa (zpa (by omega) (by omega)) ?_
  rw[Int.toNat_natCast]
  refine zla hO (Γ.length+(2+1)) (zxa (zxa (Γ:=[_,_]) i15)) a2 ?_
  refine zaa (zgm (by omega)) ?_
  refine zaa zgB ?_
  refine zaa (zpa (by omega) (by omega)) ?_
  rw[Int.toNat_natCast]
  refine zKa hO (Γ.length+0) (zxa rfl) rfl (zrx a1) a3 ?_
  clear hO
  intro H hO
  replace hO:=hO.set_r
  repeat (first|refine oi ?_|refine ow ?_|refine wy ?_|refine wn ?_|refine wt ?_|refine wf' ?_|refine cy ?_|refine cn ?_)
  exact⟨_,by omega,y+1,by omega,rfl,rfl,hO⟩
 ·have ey:y=8:=by omega
  subst ey
  rw[zNz] at hO
  exact hk _ hO
theorem zdE{s:W8}{p2 p7 p23:Nat}{T:List (Nat × Blk)}{Qx:LX}{Qr:LN}(hs:s.Ok){j7:Nat}(h7:Γ[j7]?=some (p7,⟨l8 s,true⟩))(hO:St H (Γ++[(p23,⟨zjo [],true⟩)]))
  (hk:∀ H',St H' (Γ++[(p23,⟨by8 (zgf s),true⟩)])→Qx 14 [ptr p2 0,ptr p23 0] H') :
  zob P true 252 zHh 8388612 [ptr p2 0,ptr p7 0,ptr p23 0,int 0] H Qx Qr:=by
 refine zYl (fun k l' H'=>∃ (y:Nat),y≤32∧k=32 - y∧l'=[ptr p2 0,ptr p7 0,ptr p23 0,int y]∧St H' (Γ++[(p23,⟨zjo ((zgf s).take y),true⟩)])) _ _ ?_ 32 _ _ ⟨0,by omega,rfl,rfl,hO⟩
 clear hO
 rintro k l' H ⟨y,hy,rfl,rfl,hO⟩
 unfold zFl
 try simp only[zea,zfa]
 refine zaa zNa ?_
 refine zia (fun h=>?_) (fun h=>?_)
 ·have hlen:((zgf s).take y).length=y:=by rw[List.length_take,zfg]; omega
  have hm:y / 4 < 8:=by omega
  have hi:y % 4 < 4:=by omega
  have a2:(l8 s)[0+y / 4 * 1]?=some (u64 (s.l.getD (y / 4) 0)):=by
   have hlR:s.l.length=8:=rfl
   unfold l8
   rw[show 0+y / 4 * 1=y / 4 by omega,List.getElem?_map,List.getElem?_eq_getElem (by omega),List.getD_eq_getElem?_getD,List.getElem?_eq_getElem (by omega)]; rfl
  refine zaa (zeB (b:=4) (by omega) (by omega)) ?_
  refine zaa (zpa (by omega) (by omega)) ?_
  rw[Int.toNat_natCast]
  refine zla hO j7 (zHa h7) a2 ?_
  refine zaa (v:=int ((y % 4:Nat):Int)) (zof (k:=.i64) (b:=4) (by decide)) ?_
  refine zaa (v:=int ((8 * (y % 4):Nat):Int)) (by rw[znf (by omega) (by omega)]; congr 2 <;> omega) ?_
  refine zaa (v:=int ((24 - 8 * (y % 4):Nat):Int)) (by rw[zMb (by omega) (by omega)]; congr 2 <;> omega) ?_
  refine zaa (zce (k:=.u64) rfl (show 24 - 8 * (y % 4)≤64 by omega)) ?_
  refine zaa (zof (k:=.u64) (b:=256) (by decide)) ?_
  refine zra (cvU (k':=.u8) rfl) ?_
  refine zaa (zpa (by omega) (by omega)) ?_
  rw[Int.toNat_natCast]
  refine zKa hO (Γ.length+0) (zxa rfl) rfl (show 0+y * 1 < (zjo ((zgf s).take y)).length by rw[zhu (by omega)]; omega) (show _=zjo ((zgf s).take (y+1)) from ?_) ?_
  ·have h1:=hash_step (s:=s) hm hi
   rw[show 4 * (y / 4)+y % 4=y by omega] at h1
   rw[← h1,← ziu (by omega),hlen,show 0+y * 1=y by omega]
   rw[show szU .u8=256 from rfl,Nat.mod_mod]
  clear hO
  intro H hO
  replace hO:=hO.set_r
  repeat (first|refine oi ?_|refine ow ?_|refine wy ?_|refine wn ?_|refine wt ?_|refine wf' ?_|refine cy ?_|refine cn ?_)
  exact⟨32 - (y+1),by omega,y+1,by omega,rfl,rfl,hO⟩
 ·have hy:y=32:=by omega
  subst hy
  have e:zjo ((zgf s).take 32)=by8 (zgf s):=by
   rw[List.take_of_length_le (by rw[zfg]; omega)]
   unfold zjo
   rw[zfg,Nat.sub_self,List.replicate_zero,List.append_nil]
  rw[e] at hO
  exact hk H hO
theorem zeE{t0:Value}{p2:Nat}{Qx:LX}{Qr:LN}(hO:St H (Γ++zMa v cs))(hv:OwnB v (xs++[128]) cs)(hl:xs.length≤90000000)
  (hk:∀ H' v' cs',St H' (Γ++zMa v' cs')→OwnB v' (xs++[128]++List.replicate (zal xs.length) 0) cs'→Qx 0 [t0,ptr p2 0,v'] H') :
  zob P true 252 zAh 13 [t0,ptr p2 0,v] H Qx Qr:=by
 refine zVl (fun k l' H'=>∃ (y:Nat) (v:Value) (cs:List Value),y≤zal xs.length∧k=zal xs.length - y∧l'=[t0,ptr p2 0,v]∧St H' (Γ++zMa v cs)∧OwnB v (xs++[128]++List.replicate y 0) cs) _ _ ?_ (zal xs.length) _ _ ⟨0,v,cs,by omega,rfl,rfl,hO,by rw[List.replicate_zero,List.append_nil]; exact hv⟩
 clear hO hv
 rintro k l' H ⟨y,v,cs,hy,rfl,rfl,hO,hv⟩
 unfold zCl
 try simp only[zea,zfa]
 have hlen:(xs++[128]++List.replicate y (0:Int)).length=xs.length+1+y:=by simp; omega
 have hpz:zal xs.length < 64:=Nat.mod_lt _ (by decide)
 refine zra hv.lenSl ?_
 refine zaa (v:=int (((xs++[128]++List.replicate y (0:Int)).length % 64:Nat):Int)) (zof (k:=.i64) (b:=64) (by decide)) ?_
 rw[hlen]
 refine zaa zYa ?_
 refine zia (fun h=>?_) (fun h=>?_)
 ·have hlt:y < zal xs.length:=by
   unfold zal at hy ⊢
   omega
  refine zya hO (zGB 0 _) ?_
  clear hO
  intro q H hO
  refine zEb (ys:=[0]) hO hv (by rw[hlen]; simp; omega) rfl (.inr rfl) ?_
  clear hO hv
  intro H v cs hO hv
  rw[List.append_assoc _ (List.replicate y 0),← List.replicate_succ'] at hv
  exact⟨zal xs.length - (y+1),by omega,y+1,v,cs,by omega,rfl,rfl,hO,hv⟩
 ·have hy:y=zal xs.length:=by
   unfold zal at hy ⊢
   omega
  subst hy
  exact hk H v cs hO hv
theorem zHC:∀ y,y < 8→72057594037927936 / 256 ^ y=2 ^ (56 - 8 * y):=by decide
theorem zfE{p2 n:Nat}{Qx:LX}{Qr:LN}(hO:St H (Γ++zMa v cs))(hv:OwnB v zs cs)(hl:zs.length≤95000000)(hn:n < 18446744073709551616)
  (hk:∀ H' v' cs',St H' (Γ++zMa v' cs')→OwnB v' (zs++be8 n) cs'→Qx 2 [ptr p2 0,v'] H') :
  zob P true 252 zBh 12 [ptr p2 0,v,zsb .u64 n,.int .u64 72057594037927936,int 0] H Qx Qr:=by
 refine zWl (fun k l' H'=>∃ (y:Nat) (v:Value) (cs:List Value),y≤8∧k=8 - y∧l'=[ptr p2 0,v,zsb .u64 n,zsb .u64 (72057594037927936 / 256 ^ y),int y]∧St H' (Γ++zMa v cs)∧OwnB v (zs++(be8 n).take y) cs) _ _ ?_ 8 _ _ ⟨0,v,cs,by omega,rfl,rfl,hO,by rw[List.take_zero,List.append_nil]; exact hv⟩
 clear hO hv
 rintro k l' H ⟨y,v,cs,hy,rfl,rfl,hO,hv⟩
 unfold zDl
 try simp only[zea,zfa]
 refine zaa zNa ?_
 refine zia (fun h=>?_) (fun h=>?_)
 ·have hy8:y < 8:=by omega
  have hf:=zHC y hy8
  have hp:0 < 2 ^ (56 - 8 * y):=Nat.two_pow_pos _
  refine zaa (zgq (k:=.u64) rfl (by rw[hf]; exact hp) hn) ?_
  rw[hf]
  refine zaa (zof (k:=.u64) (b:=256) (by decide)) ?_
  refine zra (cvU (k':=.u8) rfl) ?_
  rw[show szU .u8=256 from rfl,Nat.mod_mod]
  refine zya hO (zGB _ _) ?_
  clear hO
  intro q H hO
  refine zEb (ys:=[((n / 2 ^ (56 - 8 * y) % 256:Nat):Int)]) hO hv (by rw[List.length_append,List.length_take]; simp; omega) rfl (.inr rfl) ?_
  clear hO hv
  intro H v cs hO hv
  have e:(be8 n).take y++[((n / 2 ^ (56 - 8 * y) % 256:Nat):Int)]=(be8 n).take (y+1):=by
   rw[List.take_add_one,zOz hy8]; rfl
  rw[List.append_assoc,e] at hv
  have hb:2 ^ (56 - 8 * y) < szU .u64:=Nat.lt_of_le_of_lt (Nat.pow_le_pow_right (by omega) (show 56 - 8 * y≤56 by omega)) (by decide)
  refine zaa (zgq (k:=.u64) (b:=256) rfl (by decide) hb) ?_
  repeat (first|refine oi ?_|refine ow ?_|refine wy ?_|refine wn ?_|refine wt ?_|refine wf' ?_|refine cy ?_|refine cn ?_)
  refine⟨8 - (y+1),by omega,y+1,v,cs,by omega,rfl,?_,hO,hv⟩
  rw[← hf,Nat.div_div_eq_div_mul,← Nat.pow_succ]
  rfl
 ·have hy:y=8:=by omega
  subst hy
  rw[List.take_of_length_le (by rw[zuq]; omega)] at hv
  exact hk H v cs hO hv
theorem zgE{p2 p7 p8:Nat}{Qx:LX}{Qr:LN}(hv:RdB Γ v data)(hb:∀ x ∈ data,0≤x∧x≤255)(hm:data.length % 64=0)(hl:data.length≤1000000000)
  (hO:St H (Γ++[(p7,⟨l8 zPA,true⟩),(p8,⟨zpi.map fun (n:Nat)=>u64 n,true⟩)]))
  (hk:∀ H',St H' (Γ++[(p7,⟨l8 (dSt data),true⟩),(p8,⟨zpi.map fun (n:Nat)=>u64 n,true⟩)])→Qx 4 [ptr p2 0,ptr p7 0] H') :
  zob P true 252 zCh 132 [ptr p2 0,v,ptr p7 0,ptr p8 0,int 0] H Qx Qr:=by
 refine zXl (fun k l' H'=>∃ (y:Nat),64 * y≤data.length∧k=data.length / 64 - y∧l'=[ptr p2 0,v,ptr p7 0,ptr p8 0,int ((64 * y:Nat):Int)]∧St H' (Γ++[(p7,⟨l8 (stN data y),true⟩),(p8,⟨zpi.map fun (n:Nat)=>u64 n,true⟩)])) _ _ ?_ (data.length / 64) _ _ ⟨0,by omega,rfl,rfl,hO⟩
 clear hO
 rintro k l' H ⟨y,hy,rfl,rfl,hO⟩
 unfold zEl
 try simp only[zea,zfa]
 refine zra hv.lenSl ?_
 refine zaa zNa ?_
 refine zia (fun h=>?_) (fun h=>?_)
 ·have hy64:64 * y+64≤data.length:=by omega
  have hbb:∀ x ∈ (data.drop (64 * y)).take 64,0≤x∧x≤255:=fun x hx=>hb x (List.mem_of_mem_drop (List.mem_of_mem_take hx))
  refine zaa zbE ?_
  rw[zhB]
  refine zVa hO ?_
  clear hO
  intro p10 H hO
  refine zsa hO (_+0) (zxa rfl) rfl rfl rfl ?_
  clear hO
  intro H hO
  replace hO:=hO.set_r
  refine zZD hv.app hb hy64 hl hO ?_
  clear hO
  intro H hO
  refine zSa rfl ?_
  try simp only[zea,zfa]
  refine zAa hO (Γ.length+0) (zHa (zxa rfl)) rfl (by omega) ?_
  rw[zvD]
  refine zVa hO ?_
  clear hO
  intro p15 H hO
  refine zsa hO (_+0) (zxa rfl) rfl rfl rfl ?_
  clear hO
  intro H hO
  replace hO:=hO.set_r
  refine zaE (s:=stN data y) (ws:=wUp ((data.drop (64 * y)).take 64) 64) (zQr y) (zRr hbb 64) (zJn 64) (j8:=Γ.length+1) (j10:=_+0) (zHa (zxa rfl)) (zxa rfl) hO ?_
  clear hO
  intro H hO
  refine zSa rfl ?_
  try simp only[zea,zfa]
  rw[List.append_assoc,List.append_assoc] at hO
  refine zcE (s:=stN data y) (R:=zWs (wUp ((data.drop (64 * y)).take 64) 64) (stN data y) 64) (T:=[(p10,_),(p15,_)]) (zQr y) (zIn (zQr y) 64) rfl hO ?_
  clear hO
  intro H hO
  refine zSa rfl ?_
  try simp only[zea,zfa]
  refine zaa (v:=int ((64 * (y+1):Nat):Int)) (by rw[zvd (by omega) (by omega)]; congr 2 <;> omega) ?_
  refine⟨data.length / 64 - (y+1),by omega,y+1,by omega,rfl,rfl,?_⟩
  rw[← List.append_assoc] at hO
  exact hO.left
 ·have ey:y=data.length / 64:=by omega
  subst ey
  exact hk _ hO
set_option maxHeartbeats 1000000 in
theorem zPn(hO:St H Γ)(hx:RdB Γ x xs)(hb:∀ x ∈ xs,0≤x∧x≤255)(hl:xs.length≤80000000)(hk:∀ H',St H' Γ→K (agg (by8 (sha xs))) H'):wCall P zub [x] H K:=by
 apply zFr; unfold zEr
 rw[zzq]
 refine zVa hO ?_
 clear hO
 intro p2 H hO
 refine zya hO (zNi _) ?_
 clear hO
 intro q H hO
 refine zAb (v:=sl q 0 0 3) (cs:=[]) (xs:=[]) hO (.inr ⟨q,.inr ⟨rfl,rfl⟩,rfl,Nat.le_refl _,rfl⟩) hx.app (by simp; omega) ?_
 clear hO
 intro H v cs hO hv
 refine zya hO (zGB 128 _) ?_
 clear hO
 intro q2 H hO
 refine zEb (ys:=[128]) hO hv (by simp; omega) rfl (.inr rfl) ?_
 clear hO hv
 intro H v cs hO hv
 refine zeE (xs:=xs) hO hv (by omega) ?_
 clear hO hv
 intro H v cs hO hv
 refine zSa rfl ?_
 try simp only[zea,zfa]
 have hpz:zal xs.length < 64:=Nat.mod_lt _ (by decide)
 have hpl:=ziz (xs:=xs)
 have hpb:∀ x ∈ znx xs,0≤x∧x≤255:=zRb (zRb (zRb hb (zlv (by decide))) zNn) zPz
 have hpm:(znx xs).length≤1000000000:=by
  unfold znx
  rw[List.length_append,List.length_append,List.length_append,List.length_replicate,zuq]
  show xs.length+1+zal xs.length+8≤_
  omega
 refine zra hx.lenSl ?_
 refine zra (zSy (by omega) (by omega)) ?_
 rw[Int.toNat_natCast]
 refine zaa (v:=zsb .u64 (8 * xs.length)) (by
  rw[show (Value.int .u64 8)=zsb .u64 8 from rfl,zDj (k:=.u64) rfl,Nat.mod_eq_of_lt (show xs.length * 8 < szU .u64 from (show _ < 18446744073709551616 by omega)),Nat.mul_comm]) ?_
 refine zfE hO hv (by simp; omega) (by omega) ?_
 clear hO hv
 intro H v cs hO hv
 replace hv:OwnB v (znx xs) cs:=hv
 refine zSa rfl ?_
 try simp only[zea,zfa]
 refine zmv hO ?_
 clear hO
 intro H hO
 refine zbt hO ?_
 clear hO
 intro H hO
 rw[zvD,zhB]
 refine zVa hO ?_
 clear hO
 intro p7 H hO
 refine zVa hO ?_
 clear hO
 intro p8 H hO
 rw[List.append_assoc _ [_] [_]] at hO
 refine zsa hO (_+0) (zxa (L:=[_]++[_]) rfl) rfl rfl rfl ?_
 clear hO
 intro H hO
 replace hO:=hO.set_r
 refine zsa hO (_+1) (zxa (L:=[_,_]) rfl) rfl rfl rfl ?_
 clear hO
 intro H hO
 replace hO:=hO.set_r
 refine zgE (data:=znx xs) hv.rd.app' hpb hpl hpm hO ?_
 clear hO
 intro H hO
 refine zSa rfl ?_
 try simp only[zea,zfa]
 refine zaa (v:=agg (zjo [])) (by kernel_rfl) ?_
 rw[show List.replicate 32 (zsb .u8 0)=zjo [] from rfl] at hO ⊢
 refine zVa hO ?_
 clear hO
 intro p23 H hO
 refine zsa hO (_+0) (zxa rfl) rfl rfl rfl ?_
 clear hO
 intro H hO
 replace hO:=hO.set_r
 refine zdE (s:=dSt (znx xs)) (T:=[]) (zQr _) (j7:=_+0) (zxa (L:=[_,_]) rfl) hO ?_
 clear hO
 intro H hO
 refine zSa rfl ?_
 try simp only[zea,zfa]
 refine zAa hO (_+0) (zxa rfl) rfl (by omega) ?_
 refine zsa hO (Γ.length+0) (zHa (zHa (zHa (zxa rfl)))) rfl rfl (zoc _) ?_
 clear hO
 intro H hO
 rw[List.set_append_left _ _ (by simp),List.set_append_left _ _ (by simp),List.set_append_left _ _ (by simp),Go.Ab.set_r] at hO
 refine zAa hO (Γ.length+0) (zHa (zHa (zHa (zxa rfl)))) rfl (by omega) ?_
 exact hk H hO.left.left.left.left
end J
set_option maxRecDepth 100000
namespace J
open Go Go.Ab
variable{H:Heap}{Γ:List (Nat × Blk)}{K:VH}{v w x:Value}{xs ys:List Int}
theorem zJh{n:Nat}(hn:n≤8)(hk:K (int n) H):wCall P zrf [int n] H K:=by
 apply zqq; unfold zmp
 repeat (first|refine oi ?_|refine ow ?_|refine wy ?_|refine wn ?_|refine wt ?_|refine wf' ?_|refine cy ?_|refine cn ?_)
 exact hk
theorem zrc{n size:Nat}(hO:St H Γ)(hn:n < 2 ^ 64)(hs:size≤8)(hk:MadeB Γ K (leN size n)):wCall P zOb [zsb .u64 n,int size] H K:=by
 apply zwo; unfold zun
 refine zya hO (zNi _) ?_
 intro q H hO
 refine zPj (fun k l' H'=>∃ (y:Nat) (v':Value) (cs':List Value),y≤size∧k=size - y∧l'=[zsb .u64 (n / 256 ^ y),int size,zua,v',int y]∧St H' (Γ++zMa v' cs')∧OwnB v' (leN y n) cs') _ _ ?_ size _ _ ⟨0,sl q 0 0 3,[],by omega,by omega,by simp,hO,.inr ⟨q,.inr ⟨rfl,rfl⟩,rfl,Nat.zero_le _,rfl⟩⟩
 clear hO
 rintro k l' H' ⟨y,v',cs',hy,rfl,rfl,hO,hv'⟩
 unfold zGi
 try simp only[zea,zfa]
 refine zJh hs ?_
 repeat (first|refine oi ?_|refine ow ?_|refine wy ?_|refine wn ?_|refine wt ?_|refine wf' ?_|refine cy ?_|refine cn ?_)
 refine zia (fun h=>?_) (fun h=>?_)
 ·have hyl:y < size:=by omega
  have hb:n / 256 ^ y < 2 ^ 64:=Nat.lt_of_le_of_lt (Nat.div_le_self _ _) hn
  refine zaa (zof (b:=256) (by decide)) ?_
  refine zra (cvU rfl) ?_
  refine zya hO (zbu _ _ _) ?_
  intro q H hO
  rw[show n / 256 ^ y % 256 % szU .u8=n / 256 ^ y % 256 from Nat.mod_mod _ _] at *
  refine zEb (ys:=[((n / 256 ^ y % 256:Nat):Int)]) hO hv' (by have:=zCb y n; simp[this]; omega) rfl (.inr rfl) ?_
  intro H v'' cs'' hO hv''
  refine zaa (zgq (b:=256) rfl (by decide) hb) ?_
  repeat (first|refine oi ?_|refine ow ?_|refine wy ?_|refine wn ?_|refine wt ?_|refine wf' ?_|refine cy ?_|refine cn ?_)
  refine⟨_,by omega,y+1,v'',cs'',by omega,rfl,?_,hO,?_⟩
  ·rw[Nat.div_div_eq_div_mul,← Nat.pow_succ]; rfl
  ·rw[zdu]; exact hv''
 ·have e:y=size:=by omega
  subst e
  repeat (first|refine oi ?_|refine ow ?_|refine wy ?_|refine wn ?_|refine wt ?_|refine wf' ?_|refine cy ?_|refine cn ?_)
  exact hk _ _ _ hO hv'
end J
set_option maxRecDepth 100000
namespace J
open Go Go.Ab
variable{H:Heap}{Γ:List (Nat × Blk)}{K:VH}{v w x:Value}{xs ys:List Int}{j p:Nat}{e:Int}
set_option maxHeartbeats 1000000 in
theorem zFf{n:Nat}(hO:St H Γ)(hj:Γ[j]?=some (p,rdr v e))(hv:RdB Γ v xs)(hn:n≤1000000)(hx:xs.length≤1000000)
  (hk:∀ H' v2 v' cs',St H' (rdN Γ j p xs e n v2++zMa v' cs')→Inh v xs v2 (tkR xs e n)→OwnB v' (tkB xs e n) cs'→K v' H'):wCall P zXd [ptr p 0,int n] H K:=by
 apply zHr; unfold zGr
 have hjl:=(List.getElem?_eq_some_iff.1 hj).1
 refine zva (fun l' H'=>l'=[ptr p 0,int n]∧St H' Γ) ?_ ?_
 ·repeat (first|refine oi ?_|refine ow ?_|refine wy ?_|refine wn ?_|refine wt ?_|refine wf' ?_|refine cy ?_|refine cn ?_)
  exact⟨rfl,hO⟩
 clear hO
 rintro l' H ⟨rfl,hO⟩
 try simp only[zea,zfa]
 refine zva (fun l' H'=>l'=[ptr p 0,int n]∧St H' (Γ.set j (p,rdr v (tkE xs e n)))) ?_ ?_
 ·refine zva (fun l' H'=>l'=[ptr p 0,int n,.bool (decide (e=0∧xs.length < n))]∧St H' Γ) ?_ ?_
  ·refine zaa zna ?_
   refine zaa zda ?_
   refine zla hO j hj rfl ?_
   refine zaa zRa ?_
   refine zia (fun h=>?_) (fun h=>?_)
   ·refine zaa zna ?_
    refine zaa zda ?_
    refine zla hO j hj rfl ?_
    refine zra hv.lenSl ?_
    repeat (first|refine oi ?_|refine ow ?_|refine wy ?_|refine wn ?_|refine wt ?_|refine wf' ?_|refine cy ?_|refine cn ?_)
    refine⟨?_,hO⟩
    rw[decide_eq_decide.2 (show (xs.length:Int) < n↔(e=0∧xs.length < n) by omega)]
   ·repeat (first|refine oi ?_|refine ow ?_|refine wy ?_|refine wn ?_|refine wt ?_|refine wf' ?_|refine cy ?_|refine cn ?_)
    exact⟨by rw[decide_eq_false (show ¬ (e=0∧xs.length < n) from fun h'=>h h'.1)],hO⟩
  clear hO
  rintro l' H ⟨rfl,hO⟩
  try simp only[zea,zfa]
  refine zia (fun h=>?_) (fun h=>?_)
  ·refine zaa zna ?_
   refine zaa zda ?_
   refine zKa hO j hj rfl (show 1 < 2 by omega) (show _=[v,int 51] from rfl) ?_
   intro H hO
   refine⟨trivial,?_⟩
   unfold tkE
   rw[if_neg (by omega),if_pos h.1]
   exact hO
  ·refine⟨trivial,?_⟩
   have:tkE xs e n=e:=by
    unfold tkE
    by_cases h2:e=0
    ·rw[if_pos ⟨h2,by omega⟩,h2]
    ·rw[if_neg (fun h=>h2 h.1),if_neg h2]
   rw[this,zVt hj]
   exact hO
 clear hO
 rintro l' H ⟨rfl,hO⟩
 try simp only[zea,zfa]
 have hj2:=zLr (y:=(p,rdr v (tkE xs e n))) hj
 refine zaa zna ?_
 refine zaa zda ?_
 refine zla hO j hj2 rfl ?_
 refine zaa zYa ?_
 by_cases hg:e=0∧n≤xs.length
 ·have he:tkE xs e n=0:=if_pos hg
  have hb:tkB xs e n=xs.take n:=if_pos hg
  have hr:tkR xs e n=xs.drop n:=if_pos hg
  refine zVc (fun h=>h he) ?_
  refine zya hO (zNi _) ?_
  intro r H hO
  refine zaa zna ?_
  refine zaa zda ?_
  refine zla hO j (zHa hj2) rfl ?_
  have hv2:=znp (b':=rdr v (tkE xs e n)) (p':=p) hv hj (RdB.shape hv)
  obtain⟨v1,e1,r1⟩:=zOe hv2 hg.2
  obtain⟨v2,e2,r2⟩:=ztq hv2 hg.2
  refine zaa e1 ?_
  refine zAb (v:=sl r 0 0 3) (cs:=[]) (xs:=[]) hO (.inr ⟨r,.inr ⟨rfl,rfl⟩,rfl,Nat.le_refl _,rfl⟩) (r1 _ hv2) (by rw[List.length_take]; simp; omega) ?_
  intro H v' cs' hO hv'
  refine zaa zna ?_
  refine zaa zda ?_
  refine zla hO j (zHa hj2) rfl ?_
  refine zaa e2 ?_
  refine zaa zna ?_
  refine zaa zda ?_
  obtain⟨a2,n2,c2,rfl⟩:=RdB.shape (r2 _ hv2)
  refine zKa hO j (zHa hj2) rfl (show 0 < 2 by omega) (show _=[.slice a2 n2 c2,int (tkE xs e n)] from rfl) ?_
  intro H hO
  rw[List.set_append_left _ _ (by rw[List.length_set]; exact hjl),List.set_set] at hO
  exact hk _ _ _ cs' hO (by rw[hr]; exact r2) (by rw[hb]; exact hv')
 ·have he:tkE xs e n≠0:=by unfold tkE; rw[if_neg hg]; split <;> omega
  have hb:tkB xs e n=[]:=if_neg hg
  have hr:tkR xs e n=[]:=if_neg hg
  refine zhb he ?_
  refine zaa zna ?_
  refine zaa zda ?_
  refine zKa hO j hj2 rfl (show 0 < 2 by omega) (show _=[zua,int (tkE xs e n)] from rfl) ?_
  intro H hO
  rw[List.set_set] at hO
  refine hk _ zua zua [] (by show St H (_++[]); rw[List.append_nil]; exact hO) (by rw[hr]; exact .none) (by rw[hb]; exact .nil)
end J
set_option maxRecDepth 100000
namespace J
open Go Go.Ab
variable{H:Heap}{Γ:List (Nat × Blk)}{K:VH}{v w x:Value}{xs ys:List Int}{j p:Nat}{e:Int}
theorem zku:∀ (xs:List Int) (y:Nat) (h:y < xs.length),leV (xs.take (y+1))=leV (xs.take y)+256 ^ y * xs[y].toNat
 | x::r,0,_=>by simp[leV]
 | x::r,y+1,h=>by
  have hr:y < r.length:=by simpa using h
  have:=zku r y hr
  simp only[List.take_succ_cons,leV,this,List.getElem_cons_succ,Nat.pow_succ,Nat.mul_add]
  have:256 * (256 ^ y * r[y].toNat)=256 ^ y * 256 * r[y].toNat:=by rw[← Nat.mul_assoc,Nat.mul_comm 256 (256 ^ y)]
  omega
theorem ziB{y:Nat}(h:y≤8):256 ^ y≤2 ^ 64:=by
 have:(256:Nat) ^ y≤256 ^ 8:=Nat.pow_le_pow_right (by omega) h
 exact this
theorem zjB{y:Nat}(h:y < 8):256 ^ y < 2 ^ 64:=by
 have:(256:Nat) ^ y≤256 ^ 7:=Nat.pow_le_pow_right (by omega) (by omega)
 exact Nat.lt_of_le_of_lt this (by decide)
theorem zVr{bs:List Int}(hb:∀ x ∈ bs,0≤x∧x≤255){y:Nat}(h:y≤8):leV (bs.take y) < 2 ^ 64:=by
 have h1:=zNr (bs.take y) fun z hz=>hb z (List.mem_of_mem_take hz)
 have h2:=ziB (y:=(bs.take y).length) (by rw[List.length_take]; omega)
 omega
theorem zlz{bs:List Int}(hb:∀ x ∈ bs,0≤x∧x≤255){y:Nat}(h8:y < 8)(h:y < bs.length):(leV (bs.take y)+bs[y].toNat * (256 ^ y % 2 ^ 64) % 2 ^ 64) % 2 ^ 64=leV (bs.take (y+1))∧256 ^ y % 2 ^ 64 * 256 % 2 ^ 64=256 ^ (y+1) % 2 ^ 64:=by
 have h1:=zku bs y h
 have h2:=zVr hb (show y+1≤8 by omega)
 rw[Nat.mod_eq_of_lt (zjB h8)]
 constructor
 ·rw[Nat.mul_comm,Nat.mod_eq_of_lt (a:=256 ^ y * bs[y].toNat) (by omega),← h1,Nat.mod_eq_of_lt h2]
 ·rw[show (256:Nat) ^ (y+1)=256 ^ y * 256 from rfl]
theorem zvf{k:Nat}(hk8:k≤8)(hO:St H Γ)(hj:Γ[j]?=some (p,rdr v e))(hv:RdB Γ v xs)(hx:xs.length≤1000000)(hb:∀ x ∈ xs,0≤x∧x≤255)
  (hk:∀ H' v2,St H' (rdN Γ j p xs e k v2)→Inh v xs v2 (tkR xs e k)→K (zsb .u64 (leV (tkB xs e k))) H'):wCall P zIb [ptr p 0,int k] H K:=by
 apply zTl; unfold zWj
 refine zJh hk8 ?_
 refine zFf hO hj hv (by omega) hx ?_
 intro H v2 v' cs' hO r2 hv'
 have hbb:=RdB.bytes hb k e
 have hbl:=zZk xs e k
 generalize tkB xs e k=bs at *
 have hk:=hk (v2:=v2)
 generalize rdN Γ j p xs e k v2=Γ2 at *
 refine zra hv'.lenSl ?_
 refine zni (fun k l' H'=>∃ y:Nat,y≤bs.length∧k=bs.length - y∧l'=[.int .u64 0,zsb .u64 (leV (bs.take y)),zsb .u64 (256 ^ y % 2 ^ 64),v',int bs.length,int y]∧St H' (Γ2++zMa v' cs')) _ _ ?_ bs.length _ _ ⟨0,by omega,by omega,by simp[leV],hO⟩
 clear hO
 rintro k l' H' ⟨y,hy,rfl,rfl,hO⟩
 unfold zQg
 try simp only[zea,zfa]
 repeat (first|refine oi ?_|refine ow ?_|refine wy ?_|refine wn ?_|refine wt ?_|refine wf' ?_|refine cy ?_|refine cn ?_)
 refine zia (fun h=>?_) (fun h=>?_)
 ·have hyl:y < bs.length:=by omega
  have hx:=hbb _ (List.getElem_mem hyl)
  obtain⟨s1,s2⟩:=zlz hbb (show y < 8 by omega) hyl
  obtain⟨p2,o,c,j2,b,rfl,h1,h2⟩:=(hv'.rd.app' (Γ:=Γ2)).at hyl
  repeat (first|refine oi ?_|refine ow ?_|refine wy ?_|refine wn ?_|refine wt ?_|refine wf' ?_|refine cy ?_|refine cn ?_)
  refine zla hO j2 h1 (v:=.int .u8 bs[y]) (by simpa using h2) ?_
  rw[zbj hx.1]
  refine zra (cvU rfl) ?_
  rw[show bs[y].toNat % szU .u64=bs[y].toNat from Nat.mod_eq_of_lt (show bs[y].toNat < 2 ^ 64 by omega)]
  refine zaa (zDj rfl) ?_
  refine zaa (zxc rfl) ?_
  refine zaa (zDj (b:=256) rfl) ?_
  rw[show szU .u64=2 ^ 64 from rfl,s1,s2]
  repeat (first|refine oi ?_|refine ow ?_|refine wy ?_|refine wn ?_|refine wt ?_|refine wf' ?_|refine cy ?_|refine cn ?_)
  exact⟨_,by omega,y+1,by omega,rfl,rfl,hO⟩
 ·have e:y=bs.length:=by omega
  subst e
  repeat (first|refine oi ?_|refine ow ?_|refine wy ?_|refine wn ?_|refine wt ?_|refine wf' ?_|refine cy ?_|refine cn ?_)
  rw[List.take_of_length_le (Nat.le_refl _)]
  exact hk _ hO.left r2
end J
set_option linter.unusedSectionVars false
set_option maxRecDepth 100000
namespace J
open Go Go.Ab
variable{H:Heap}{Γ Γ0 Γ2 Δ G L:List (Nat × Blk)}{K:VH}{v w x:Value}{xs ys zs bs b key ms:List Int}{j p q o n k:Nat}{e:Int}{cs cs':List Value}
section rules
variable[LpC]
theorem _root_.Go.Ab.St.z(h:St H Γ):St H (Γ++[]):=by rw[List.append_nil]; exact h
theorem _root_.Go.Ab.St.as{A B:List (Nat × Blk)}(h:St H ((Γ++A)++B)):St H (Γ++(A++B)):=by rw[List.append_assoc] at h; exact h
theorem nw(h:St H (Γ++L))(hk:∀ p H',St H' (Γ++(L++[(p,⟨cs,true⟩)]))→K (ptr p 0) H'):zZb cs H K:=
 zVa h fun p H' hO=>hk p H' hO.as
theorem s1{K:VH}(h:St H (Γ++L))(k:Nat)(hi:L[k]?=some (p,⟨cs,true⟩))(h1:oneCell v=true)(hn:o < cs.length)(hk:∀ H',St H' (Γ++L.set k (p,⟨cs.set o v,true⟩))→K undef H'):opW (zka 1 (ptr p o) v H) K:=
 zKa h (Γ.length+k) (zxa hi) h1 hn rfl fun H' hO=>hk H' hO.set_r
theorem sw{K:VH}{new:List Value}(h:St H (Γ++L))(k:Nat)(hi:L[k]?=some (p,⟨cs,true⟩))(hn:cs.length=n)(hl:new.length=n)(h1:new.all oneCell=true)(hk:∀ H',St H' (Γ++L.set k (p,⟨new,true⟩))→K undef H'):opW (zka n (ptr p 0) (agg new) H) K:=
 zsa h (Γ.length+k) (zxa hi) hn hl h1 fun H' hO=>hk H' hO.set_r
theorem lw{K:VH}{b:Bool}(h:St H (Γ++L))(k:Nat)(hi:L[k]?=some (p,⟨cs,b⟩))(hn:cs.length=n)(hp:0 < n)(hk:K (agg cs) H):opW (zja n (ptr p 0) H) K:=
 zAa h (Γ.length+k) (zxa hi) hn hp hk
theorem sar(h:St H (Γ++L))(k:Nat)(hi:L[k]?=some (p,⟨cs,true⟩))(hn:cs.length=n)(hp:0 < n):zdb n 1 (ptr p 0) none none none H=some (sl p 0 n 3):=
 zWc h (Γ.length+k) (zxa hi) hp (by show 0+n≤cs.length; omega)
theorem zmz{b:Bool}(k:Nat)(hi:L[k]?=some (p,⟨by8 xs,b⟩)){c:Nat}(hc:c=2∨c=3)(hn:xs.length=n):RdB (Γ++L) (sl p 0 n c) xs:=
 .inr ⟨p,0,c,by rw[hn],hc,.inr ⟨Γ.length+k,_,zxa hi,by rw[List.drop_zero]; exact List.take_of_length_le (by simp)⟩⟩
theorem kp{q o n c:Nat}{K:VH}(hO:St H (Γ++L))(k:Nat)(hi:L[k]?=some (q,⟨cs,true⟩))(hn:0 < n)(hk:K (sl q o n c) H):opW (zbh (sl q o n c) H) K:=by
 have hg:H.get q=some ⟨cs,true⟩:=hO.at _ (zxa hi) (.inl rfl)
 refine zra ?_ hk
 have hb:Nat.beq n 0=false:=by
  cases hb:Nat.beq n 0 with
  | false=>rfl
  | true=>have:=Nat.eq_of_beq_eq_true hb; omega
 unfold zbh
 simp only[hb,hg]
 have:Heap.mayWrite H q ⟨cs,true⟩=true:=by unfold Heap.mayWrite; rw[hO.fl]; rfl
 rw[this]
theorem zkB{A B:List (Nat × Blk)}(h:St H (Γ++(A++B))):St H (Γ++A):=by rw[← List.append_assoc] at h; exact h.left
theorem zct{i:Nat}{K:VH}{c:Nat}(hO:St H Γ)(hi:Γ[i]?=some (q,⟨cs,true⟩))(hv:RdB Γ v ys)(hn:ys.length≤n)(hl:o+n≤cs.length)
  (hk:∀ H',St H' (Γ.set i (q,⟨cs.take o++(by8 ys++cs.drop (o+ys.length)),true⟩))→K (int ys.length) H'):opW (zJg 1 (sl q o n c) v H) K:=by
 obtain⟨H',hw,hs⟩:=zYp hO (o:=o) (vs:=by8 ys) hi (by simp; omega) (by simp[oneCell])
 unfold zJg
 simp only[hv.lenA]
 have hm:Nat.min ys.length n=ys.length:=Nat.min_eq_left hn
 rw[hm]
 cases hb:Nat.beq ys.length 0 with
 | true=>
  have h0:=Nat.eq_of_beq_eq_true hb
  have:ys=[]:=List.length_eq_zero_iff.1 h0
  subst this
  have e:cs.take o++(by8 []++cs.drop (o+([]:List Int).length))=cs:=by
   show cs.take o++([]++cs.drop (o+0))=cs
   simp
  refine zra (show _=some (int (0:Nat),H) from rfl) (hk H ?_)
  rw[e,zVt hi]; exact hO
 | false=>
  simp only[Bool.false_eq_true,if_false]
  rw[hv.elems hO]
  simp only
  rw[hw]
  refine zra (show some (Value.int .i64 ((ys.length:Nat):Int),H')=_ from rfl) ?_
  rw[List.length_map] at hs
  exact hk _ hs
end rules
end J
set_option maxRecDepth 100000
namespace J
open Go Go.Ab
variable{H:Heap}{Γ Γ0 Γ2 Δ G L:List (Nat × Blk)}{K:VH}{v w x:Value}{xs ys zs bs b key ms:List Int}{j p q o n k:Nat}{e:Int}{cs cs':List Value}
def zPi(k:List Int):List Int:=if 64 < k.length then sha k else k
def zDv(x:Int)(w:Nat):Int:=((x.toNat ^^^ w:Nat):Int)
def zko(k:List Int)(w:Nat):List Int:=(List.range 64).map fun i=>zDv ((zPi k).getD i 0) w
def zNl(k m:List Int):List Int:=sha (zko k 92++sha (zko k 54++m))
theorem zYb{m:List Int}:(sha m).length=32:=rfl
theorem zlu{m:List Int}:∀ x ∈ sha m,0≤x∧x≤255:=by
 intro x hx
 obtain⟨a,_,hx⟩:=List.mem_flatMap.1 hx
 have hm:∀ n:Nat,0≤((n % 256:Nat):Int)∧((n % 256:Nat):Int)≤255:=fun n=>by omega
 unfold be4 at hx
 simp only[List.mem_cons,List.not_mem_nil,or_false] at hx
 rcases hx with rfl|rfl|rfl|rfl <;> exact hm _
theorem zAq(k:List Int):(zPi k).length≤64:=by
 unfold zPi
 split
 ·rw[zYb]; omega
 ·omega
theorem zQn(hb:∀ x ∈ key,0≤x∧x≤255):∀ x ∈ zPi key,0≤x∧x≤255:=by
 unfold zPi
 split
 ·exact zlu
 ·exact hb
theorem zxb{k:List Int}{w:Nat}:(zko k w).length=64:=by simp[zko]
theorem zdt{x:Int}{w:Nat}(hx:x.toNat < 256)(hw:w < 256):0≤zDv x w∧zDv x w≤255:=by
 have:=Nat.xor_lt_two_pow (n:=8) hx hw
 unfold zDv
 omega
theorem zbl{w:Nat}(hw:w < 256)(hb:∀ x ∈ key,0≤x∧x≤255):∀ x ∈ zko key w,0≤x∧x≤255:=by
 intro x hx
 obtain⟨i,_,rfl⟩:=List.mem_map.1 hx
 exact zdt (zFc (zQn hb) i) hw
def zlB(k:List Int):List Int:=zPi k++List.replicate (64 - (zPi k).length) 0
theorem zjk{k:List Int}:(zlB k).length=64:=by have:=zAq k; simp[zlB]; omega
theorem zyx{k:List Int}{i:Nat}:(zlB k).getD i 0=(zPi k).getD i 0:=by
 unfold zlB
 rw[List.getD_eq_getElem?_getD,List.getD_eq_getElem?_getD]
 by_cases h:i < (zPi k).length
 ·rw[List.getElem?_append_left h]
 ·rw[List.getElem?_append_right (by omega),List.getElem?_eq_none (l:=zPi k) (by omega),List.getElem?_replicate]
  split <;> rfl
def zet(k:List Int)(w y:Nat):List Int:=(zko k w).take y++(zlB k).drop y
theorem zmu{k:List Int}{w y:Nat}(h:y≤64):(zet k w y).length=64:=by
 simp[zet,zxb,zjk]; omega
theorem zmB{k:List Int}{w y:Nat}(h:y < 64):(by8 (zet k w y))[y]?=some (.int .u8 ((zPi k).getD y 0)):=by
 unfold zet by8
 rw[List.map_append,List.getElem?_append_right (by simp[zxb]; omega)]
 have:(zlB k)[y]?=some ((zPi k).getD y 0):=by
  rw[List.getElem?_eq_getElem (by rw[zjk]; exact h),← zyx,List.getD_eq_getElem?_getD,List.getElem?_eq_getElem (by rw[zjk]; exact h)]; rfl
 simp[zxb,this,show min y 64=y by omega]
theorem znz{k:List Int}{w y:Nat}(h:y < 64):(by8 (zet k w y)).set y (.int .u8 (zDv ((zPi k).getD y 0) w))=by8 (zet k w (y+1)):=by
 apply List.ext_getElem?
 intro i
 have hl:=zxb (k:=k) (w:=w)
 have hz:=zjk (k:=k)
 have hp:(zko k w)[y]?=some (zDv ((zPi k).getD y 0) w):=by
  unfold zko; rw[List.getElem?_map,List.getElem?_range h]; rfl
 rw[List.getElem?_set]
 by_cases hi:y=i
 ·subst hi
  rw[if_pos rfl,if_pos (by simp[zmu (show y≤64 by omega)]; exact h)]
  unfold zet by8
  rw[List.map_append,List.getElem?_append_left (by simp[hl]; omega)]
  simp[hp]
 ·rw[if_neg hi]
  unfold zet by8
  rw[List.map_append,List.map_append]
  by_cases h2:i < y
  ·rw[List.getElem?_append_left (by simp[hl]; omega),List.getElem?_append_left (by simp[hl]; omega)]
   simp[List.getElem?_take,h2,show i < y+1 by omega]
  ·rw[List.getElem?_append_right (by simp[hl]; omega),List.getElem?_append_right (by simp[hl]; omega)]
   simp[hl,show min y 64=y by omega,show min (y+1) 64=y+1 by omega]
   congr 2; omega
theorem zwD:zc P 118=List.replicate 64 (zsb .u8 0):=by kernel_rfl
set_option maxHeartbeats 1000000 in
theorem zRn{m:Nat}(hm:m < 256)(hO:St H Γ)(hv:RdB Γ v key)(hb:∀ x ∈ key,0≤x∧x≤255)(hl:key.length≤80000000)
  (hk:∀ H' q,St H' (Γ++[(q,⟨by8 (zko key m),true⟩)])→K (sl q 0 64 3) H'):wCall P zie [v,.int .u8 m] H K:=by
 apply zmq; unfold zhp
 refine zva (fun l' H'=>∃ (v':Value) (B:List (Nat × Blk)),l'=[v',.int .u8 m,zua]∧St H' (Γ++B)∧RdB (Γ++B) v' (zPi key)) ?_ ?_
 ·refine zra hv.lenSl ?_
  refine zaa zHb ?_
  refine zia (fun h=>?_) (fun h=>?_)
  ·obtain⟨a,n,c,hs⟩:=hv.shape
   refine zya hO (by rw[hs]; exact zKr _ _ _ _) ?_
   rw[← hs]
   clear hO
   intro q H hO
   refine ztx (j:=Γ.length+0) hO (zxa rfl) hv.app hb hl ?_
   clear hO
   intro H hO
   rw[zzq]
   refine nw hO ?_
   clear hO
   intro p5 H hO
   refine sw hO 1 rfl (by simp) (by simp[zYb]) (zoc _) ?_
   clear hO
   intro H hO
   refine zaa (sar hO 1 rfl (by simp[zYb]) (by omega)) ?_
   refine⟨_,_,rfl,hO,?_⟩
   rw[show zPi key=sha key from if_pos (by omega)]
   exact zmz 1 rfl (.inr rfl) zYb
  ·refine⟨v,[],rfl,hO.z,?_⟩
   rw[show zPi key=key from if_neg (by omega)]
   exact hv.app
 clear hO
 rintro l' H ⟨v',B,rfl,hO,hr⟩
 try simp only[zea,zfa]
 rw[zwD]
 refine zVa hO ?_
 clear hO
 intro p6 H hO
 have hkl:=zAq key
 refine zaa (zWc hO ((Γ++B).length+0) (zxa rfl) (by omega) (by simp)) ?_
 refine zct hO (zxa (k:=0) rfl) hr.app hkl (by simp) ?_
 clear hO
 intro H hO
 replace hO:=hO.set_r
 have e0:((List.replicate 64 (zsb .u8 0)).take 0++(by8 (zPi key)++(List.replicate 64 (zsb .u8 0)).drop (0+(zPi key).length)))=by8 (zet key m 0):=by
  rw[Nat.zero_add,List.drop_replicate]
  simp only[zet,zlB,List.take_zero,List.nil_append,List.drop_zero,by8,List.map_append,List.map_replicate]
  rfl
 rw[e0] at hO
 replace hO:St H (Γ++[(p6,⟨by8 (zet key m 0),true⟩)]):=St.mid hO
 refine zTk (fun k l' H'=>∃ (y:Nat),y≤64∧k=64 - y∧l'=[.int .u8 m,zua,ptr p6 0,int y]∧St H' (Γ++[(p6,⟨by8 (zet key m y),true⟩)])) _ _ ?_ 64 _ _ ⟨0,by omega,by omega,rfl,hO⟩
 clear hO
 rintro k l' H ⟨y,hy,rfl,rfl,hO⟩
 unfold zRj
 try simp only[zea,zfa]
 refine zaa zNa ?_
 refine zia (fun h=>?_) (fun h=>?_)
 ·have hy:y < 64:=by omega
  have hg:=zFc (zQn hb) y
  repeat (first|refine oi ?_|refine ow ?_|refine wy ?_|refine wn ?_|refine wt ?_|refine wf' ?_|refine cy ?_|refine cn ?_)
  refine ld hO 0 rfl (by rw[show 0+(y:Int).toNat * 1=y by omega]; exact zmB hy) ?_
  have hx:Value.int .u8 ((zPi key).getD y 0)=zsb .u8 ((zPi key).getD y 0).toNat:=by
   refine zbj ?_
   rw[List.getD_eq_getElem?_getD]
   by_cases hi:y < (zPi key).length
   ·rw[List.getElem?_eq_getElem hi]; exact (zQn hb _ (List.getElem_mem hi)).1
   ·rw[List.getElem?_eq_none (by omega)]; decide
  rw[hx]
  refine zaa (ztb (k:=.u8) rfl hg hm) ?_
  repeat (first|refine oi ?_|refine ow ?_|refine wy ?_|refine wn ?_|refine wt ?_|refine wf' ?_|refine cy ?_|refine cn ?_)
  refine s1 hO 0 rfl rfl (by simp[zmu (show y≤64 by omega)]; omega) ?_
  clear hO
  intro H hO
  repeat (first|refine oi ?_|refine ow ?_|refine wy ?_|refine wn ?_|refine wt ?_|refine wf' ?_|refine cy ?_|refine cn ?_)
  refine⟨_,?_,y+1,by omega,rfl,rfl,?_⟩
  ·omega
  ·have e1:=znz (k:=key) (w:=m) hy
   rw[show 0+(y:Int).toNat * 1=y by omega] at hO
   have hO:St H (Γ++[(p6,⟨(by8 (zet key m y)).set y (.int .u8 (zDv ((zPi key).getD y 0) m)),true⟩)]):=hO
   rw[e1] at hO; exact hO
 ·have e:y=64:=by omega
  subst e
  have e2:zet key m 64=zko key m:=by
   unfold zet
   rw[List.take_of_length_le (by rw[zxb]; omega),List.drop_of_length_le (by rw[zjk]; omega),List.append_nil]
  rw[e2] at hO
  repeat (first|refine oi ?_|refine ow ?_|refine wy ?_|refine wn ?_|refine wt ?_|refine wf' ?_|refine cy ?_|refine cn ?_)
  refine zaa (sar hO 0 rfl (by simp[zxb]) (by omega)) ?_
  exact hk _ _ hO
end J
set_option maxRecDepth 100000
namespace J
open Go Go.Ab
variable{H:Heap}{Γ Γ0 Γ2 Δ G L:List (Nat × Blk)}{K:VH}{v w x:Value}{xs ys zs bs b key ms:List Int}{j p q o n k:Nat}{e:Int}{cs cs':List Value}
theorem zzx{q:Nat}{v2:Value}(hO:St H Γ)(hq:Γ[j]?=some (q,(⟨[v,v2],true⟩:Blk)))(hv:RdB Γ v xs)(hv2:RdB Γ v2 ys)(hx:∀ x ∈ xs,0≤x∧x≤255)(hyb:∀ x ∈ ys,0≤x∧x≤255)(hl:xs.length≤8000000)(hl2:ys.length≤8000000)
  (hk:∀ H',St H' Γ→K (agg (by8 (sha (xs++ys)))) H'):wCall P znd [sl q 0 2 3] H K:=by
 apply zTj; unfold zUk
 rw[zzq]
 refine zVa hO ?_
 clear hO
 intro p2 H hO
 refine zyq hO ?_
 clear hO
 intro H pd hO
 have hd:Dg pd [] (DG pd (dSt []) zua ([]:List Int).length []):=⟨zua,[],rfl,.inl ⟨rfl,rfl,rfl⟩⟩
 refine zra zai ?_
 generalize (DG pd (dSt []) zua ([]:List Int).length [])=L at *
 refine zdg (fun k l' H'=>∃ (y:Nat) (L:List (Nat × Blk)),y≤2∧k=2 - y∧l'=[ptr p2 0,ptr pd 0,sl q 0 2 3,int 2,int y]∧St H' ((Γ++[(p2,⟨List.replicate 32 (zsb .u8 0),true⟩)])++L)∧Dg pd ([xs,ys].take y).flatten L) _ _ ?_ 2 _ _ ⟨0,L,by omega,rfl,rfl,hO,hd⟩
 clear hO hd
 rintro k l' H ⟨y,L,hy,rfl,rfl,hO,hd⟩
 unfold zCg
 try simp only[zea,zfa]
 refine zaa zNa ?_
 refine zia (fun h=>?_) (fun h=>?_)
 ·have hy0:y=0∨y=1:=by omega
  rcases hy0 with rfl|rfl
  ·refine zaa (zUb (by omega) (by omega)) ?_
   refine zla hO j (zHa (zHa hq)) (v:=v) rfl ?_
   refine zuf hO hd hv.app (by intro x hx; cases hx) hx (by simp) (by omega) ?_
   clear hO hd
   intro H L hO hd
   repeat (first|refine oi ?_|refine ow ?_|refine wy ?_|refine wn ?_|refine wt ?_|refine wf' ?_|refine cy ?_|refine cn ?_)
   exact⟨1,by omega,1,L,by omega,rfl,rfl,hO,by simpa using hd⟩
  ·refine zaa (zUb (by omega) (by omega)) ?_
   refine zla hO j (zHa (zHa hq)) (v:=v2) rfl ?_
   refine zuf hO hd hv2.app (by simpa using hx) hyb (by simp; omega) (by omega) ?_
   clear hO hd
   intro H L hO hd
   repeat (first|refine oi ?_|refine ow ?_|refine wy ?_|refine wn ?_|refine wt ?_|refine wf' ?_|refine cy ?_|refine cn ?_)
   exact⟨0,by omega,2,L,by omega,rfl,rfl,hO,by simpa using hd⟩
 ·have hy0:y=2:=by omega
  subst hy0
  replace hd:Dg pd (xs++ys) L:=by simpa using hd
  refine zSa rfl ?_
  try simp only[zea,zfa]
  refine zOn hO hd (zRb hx hyb) (by simp; omega) ?_
  clear hO
  intro H hO
  refine zmf hO (Γ.length+0) (zHa (zxa rfl)) rfl (show 0+32≤32 by omega) (show (by8 (sha (xs++ys))).all oneCell=true by simp[oneCell]) ?_
  clear hO
  intro H hO
  rw[List.set_append_left _ _ (by simp),Go.Ab.set_r] at hO
  refine zGa hO (Γ.length+0) (zHa (zxa rfl)) (show _=by8 (sha (xs++ys)) from rfl) rfl (by omega) ?_
  exact hk H hO.left.left
set_option maxHeartbeats 1000000 in
theorem zSn{q c:Nat}(hO:St H Γ)(hv:RdB Γ v key)(hq:Γ[j]?=some (q,(⟨[x],true⟩:Blk)))(hx:RdB Γ x ms)(hb:∀ x ∈ key,0≤x∧x≤255)(hm:∀ x ∈ ms,0≤x∧x≤255)(hl:key.length≤80000000)(hl2:ms.length≤8000000)
  (hk:∀ H',St H' Γ→K (agg (by8 (zNl key ms))) H'):wCall P zoh [v,sl q 0 1 c] H K:=by
 apply zcv; unfold zix
 rw[zzq]
 refine zVa hO ?_
 clear hO
 intro p4 H hO
 refine zyq hO ?_
 clear hO
 intro H pd hO
 have hd:Dg pd [] (DG pd (dSt []) zua ([]:List Int).length []):=⟨zua,[],rfl,.inl ⟨rfl,rfl,rfl⟩⟩
 generalize (DG pd (dSt []) zua ([]:List Int).length [])=L at *
 refine zRn (m:=54) (by omega) hO hv.app.app hb hl ?_
 clear hO
 intro H q1 hO
 have hO2:=swp hO
 refine zuf hO2 hd (w:=sl q1 0 64 3) (ys:=zko key 54) (zmz 0 rfl (.inr rfl) zxb) (by intro x hx; cases hx) (zbl (by omega) hb) (by simp) (by rw[zxb]; omega) ?_
 clear hO hO2 hd
 intro H L hO hd
 replace hd:Dg pd (zko key 54) L:=hd
 replace hO:=drp hO
 refine zra zai ?_
 refine zso (fun k l' H'=>∃ (y:Nat) (L:List (Nat × Blk)),y≤1∧k=1 - y∧l'=[v,ptr p4 0,ptr pd 0,sl q 0 1 c,int 1,int y]∧St H' ((Γ++[(p4,⟨List.replicate 32 (zsb .u8 0),true⟩)])++L)∧Dg pd (zko key 54++([ms].take y).flatten) L) _ _ ?_ 1 _ _ ⟨0,L,by omega,rfl,rfl,hO,by simpa using hd⟩
 clear hO hd
 rintro k l' H ⟨y,L,hy,rfl,rfl,hO,hd⟩
 unfold zep
 try simp only[zea,zfa]
 refine zaa zNa ?_
 refine zia (fun h=>?_) (fun h=>?_)
 ·have hy0:y=0:=by omega
  subst hy0
  refine zaa (zUb (by omega) (by omega)) ?_
  refine zla hO j (zHa (zHa hq)) (v:=x) rfl ?_
  refine zuf hO hd hx.app (by simpa using zbl (by omega) hb) hm (by simp[zxb]) (by omega) ?_
  clear hO hd
  intro H L hO hd
  repeat (first|refine oi ?_|refine ow ?_|refine wy ?_|refine wn ?_|refine wt ?_|refine wf' ?_|refine cy ?_|refine cn ?_)
  exact⟨0,by omega,1,L,by omega,rfl,rfl,hO,by simpa using hd⟩
 ·have hy0:y=1:=by omega
  subst hy0
  replace hd:Dg pd (zko key 54++ms) L:=by simpa using hd
  refine zSa rfl ?_
  try simp only[zea,zfa]
  refine zOn hO hd (zRb (zbl (by omega) hb) hm) (by simp[zxb]; omega) ?_
  clear hO
  intro H hO
  replace hO:=hO.left
  refine nw hO ?_
  clear hO
  intro p8 H hO
  refine sw hO 1 rfl (by simp) (by simp[zYb]) (zoc _) ?_
  clear hO
  intro H1 hO1
  refine zRn (m:=92) (by omega) hO1 hv.app hb hl ?_
  intro H q2 hO
  refine zaa (zWc hO (Γ.length+1) (zHa (zxa rfl)) (by omega) (by simp[zYb])) ?_
  refine⟨zjc hO1 (Γ.length+1) (zxa rfl) hO (Γ.length+1) (zHa (zxa rfl)) (zRe _),?_⟩
  refine zya hO (zMz _ _ _ _ _ _ _) ?_
  clear hO
  intro q3 H hO
  replace hO:=hO.as.as
  refine zzx (j:=Γ.length+3) (xs:=zko key 92) (ys:=sha (zko key 54++ms)) hO (zxa rfl) (zmz 2 rfl (.inr rfl) zxb) (zmz 1 rfl (.inr rfl) zYb) (zbl (by omega) hb) zlu (by rw[zxb]; omega) (by rw[zYb]; omega) ?_
  clear hO
  intro H hO
  refine sw hO 0 rfl (by simp) (by simp[zYb]) (zoc _) ?_
  clear hO
  intro H hO
  refine lw hO 0 rfl (by simp[zYb]) (by omega) ?_
  exact hk H hO.left
theorem znB{a b:Nat}:a ||| b=0↔a=0∧b=0:=by
 constructor
 ·intro h
  constructor
  ·apply Nat.eq_of_testBit_eq; intro i
   have:=congrArg (·.testBit i) h
   simp at this
   simp[this.1]
  ·apply Nat.eq_of_testBit_eq; intro i
   have:=congrArg (·.testBit i) h
   simp at this
   simp[this.2]
 ·rintro⟨rfl,rfl⟩; rfl
theorem zoz{a b:Nat}:a ^^^ b=0↔a=b:=by
 constructor
 ·intro h
  apply Nat.eq_of_testBit_eq; intro i
  have:=congrArg (·.testBit i) h
  simp at this
  exact this
 ·rintro rfl; exact Nat.xor_self _
theorem zWr{a b:List Int}{y:Nat}(ha:y < a.length)(hb:y < b.length):a.take (y+1)=b.take (y+1)↔a.take y=b.take y∧a[y]=b[y]:=by
 rw[List.take_succ_eq_append_getElem ha,List.take_succ_eq_append_getElem hb]
 constructor
 ·intro h
  have:=List.append_inj h (by simp; omega)
  exact⟨this.1,by simpa using this.2⟩
 ·rintro⟨h1,h2⟩; rw[h1,h2]
theorem zBq{a b:List Int}(ha:a.length=32)(hb:b.length=32)(ba:∀ x ∈ a,0≤x∧x≤255)(bb:∀ x ∈ b,0≤x∧x≤255)(hO:St H Γ)
  (hk:∀ H',St H' Γ→K (.bool (decide (a=b))) H'):wCall P zug [agg (by8 a),agg (by8 b)] H K:=by
 apply zzr; unfold zyr
 refine nw hO.z ?_
 clear hO
 intro p2 H hO
 refine nw hO ?_
 clear hO
 intro p3 H hO
 replace hO:St H (Γ++[(p2,⟨by8 a,true⟩),(p3,⟨by8 b,true⟩)]):=hO
 refine zQl (fun k l' H'=>∃ (y d:Nat),y≤32∧k=32 - y∧l'=[ptr p2 0,ptr p3 0,.bool false,zsb .u8 d,int y]∧H'=H∧d < 256∧(d=0↔a.take y=b.take y)) _ _ ?_ 32 _ _ ⟨0,0,by omega,by omega,rfl,rfl,by omega,by simp⟩
 rintro k l' H' ⟨y,d,hy,rfl,rfl,rfl,hd,hi⟩
 unfold zul
 try simp only[zea,zfa]
 refine zaa zNa ?_
 refine zia (fun h=>?_) (fun h=>?_)
 ·have hy:y < 32:=by omega
  have ga:=ba _ (List.getElem_mem (show y < a.length by omega))
  have gb:=bb _ (List.getElem_mem (show y < b.length by omega))
  repeat (first|refine oi ?_|refine ow ?_|refine wy ?_|refine wn ?_|refine wt ?_|refine wf' ?_|refine cy ?_|refine cn ?_)
  refine ld hO 0 rfl (v:=.int .u8 a[y]) (by rw[show 0+(y:Int).toNat * 1=y by omega]; simp[by8]) ?_
  repeat (first|refine oi ?_|refine ow ?_|refine wy ?_|refine wn ?_|refine wt ?_|refine wf' ?_|refine cy ?_|refine cn ?_)
  refine ld hO 1 rfl (v:=.int .u8 b[y]) (by rw[show 0+(y:Int).toNat * 1=y by omega]; simp[by8]) ?_
  rw[zbj ga.1,zbj gb.1]
  have x1:a[y].toNat ^^^ b[y].toNat < 256:=Nat.xor_lt_two_pow (n:=8) (by omega) (by omega)
  refine zaa (ztb (k:=.u8) rfl (show _ < 256 by omega) (show _ < 256 by omega)) ?_
  refine zaa (zaj (k:=.u8) rfl (show _ < 256 by omega) (show _ < 256 from x1)) ?_
  repeat (first|refine oi ?_|refine ow ?_|refine wy ?_|refine wn ?_|refine wt ?_|refine wf' ?_|refine cy ?_|refine cn ?_)
  refine⟨_,?_,y+1,_,by omega,rfl,rfl,rfl,Nat.or_lt_two_pow (n:=8) hd x1,?_⟩
  ·omega
  ·rw[znB,zoz,zWr (by omega) (by omega),hi]
   constructor
   ·rintro⟨h1,h2⟩; exact⟨h1,by omega⟩
   ·rintro⟨h1,h2⟩; exact⟨h1,by rw[h2]⟩
 ·have e:y=32:=by omega
  subst e
  rw[List.take_of_length_le (by omega),List.take_of_length_le (by omega)] at hi
  refine zSa rfl ?_
  try simp only[zea,zfa]
  refine zaa (zQy (k:=.u8) (b:=0)) ?_
  have:=hk _ hO.left
  rw[decide_eq_decide.2 hi]; exact this
end J
set_option maxRecDepth 100000
namespace J
open Go Go.Ab
variable{H:Heap}{Γ Γ0 Γ2 Δ G L:List (Nat × Blk)}{K:VH}{v w x:Value}{xs ys zs bs b key ms:List Int}{j p q o n k:Nat}{e:Int}{cs cs':List Value}
theorem zXr{k:List Int}{w y:Nat}(h:y < 64):(zko k w).take (y+1)=(zko k w).take y++[zDv ((zPi k).getD y 0) w]:=by
 rw[List.take_succ_eq_append_getElem (by rw[zxb]; exact h)]
 congr 2
 simp[zko]
set_option maxHeartbeats 2000000 in
theorem znv(hO:St H Γ)(hv:RdB Γ v key)(hx:RdB Γ x ms)(hb:∀ x ∈ key,0≤x∧x≤255)(hm:∀ x ∈ ms,0≤x∧x≤255)(hl:key.length≤80000000)(hl2:ms.length≤8000000)
  (hk:∀ H',St H' Γ→K (agg (by8 (zNl key ms))) H'):wCall P zvg [v,x] H K:=by
 apply zBr; unfold zAr
 rw[zzq]
 refine zVa hO ?_
 clear hO
 intro p4 H hO
 refine zva (fun l' H'=>∃ (v':Value) (B:List (Nat × Blk)),l'=[v',x,ptr p4 0]∧St H' ((Γ++B)++[(p4,⟨List.replicate 32 (zsb .u8 0),true⟩)])∧RdB (Γ++B) v' (zPi key)) ?_ ?_
 ·refine zra hv.lenSl ?_
  refine zaa zHb ?_
  refine zia (fun h=>?_) (fun h=>?_)
  ·refine zPn hO hv.app hb hl ?_
   clear hO
   intro H hO
   refine nw hO ?_
   clear hO
   intro p5 H hO
   refine sw hO 1 rfl (by simp) (by simp[zYb]) (zoc _) ?_
   clear hO
   intro H hO
   refine zaa (sar hO 1 rfl (by simp[zYb]) (by omega)) ?_
   replace hO:St H (Γ++([(p4,⟨List.replicate 32 (zsb .u8 0),true⟩)]++[(p5,⟨by8 (sha key),true⟩)])):=hO
   rw[← List.append_assoc] at hO
   refine⟨_,_,rfl,hO.rot,?_⟩
   rw[show zPi key=sha key from if_pos (by omega)]
   exact zmz 0 rfl (.inr rfl) zYb
  ·refine⟨v,[],rfl,by rw[List.append_nil]; exact hO,?_⟩
   rw[show zPi key=key from if_neg (by omega)]
   exact hv.app
 clear hO
 rintro l' H ⟨v',B,rfl,hO,hr⟩
 try simp only[zea,zfa]
 replace hx:=hx.app (Δ:=B)
 replace hk:∀ H',St H' (Γ++B)→K (agg (by8 (zNl key ms))) H':=fun H' h=>hk H' h.left
 generalize Γ++B=Γ at *
 have hkl:=zAq key
 refine zya hO (zNi _) ?_
 clear hO
 intro q1 H hO
 refine zya hO (zNi _) ?_
 clear hO
 intro q2 H hO
 refine zSl (fun k l' H'=>∃ (y:Nat) (v1 v2:Value) (c1 c2:List Value),y≤64∧k=64 - y∧l'=[v',x,ptr p4 0,v1,v2,int y]∧St H' (((Γ++[(p4,⟨List.replicate 32 (zsb .u8 0),true⟩)])++zMa v1 c1)++zMa v2 c2)∧OwnB v1 ((zko key 54).take y) c1∧OwnB v2 ((zko key 92).take y) c2) _ _ ?_ 64 _ _
  ⟨0,sl q1 0 0 3,sl q2 0 0 3,[],[],by omega,by omega,rfl,hO,.inr ⟨q1,.inr ⟨rfl,rfl⟩,rfl,Nat.zero_le _,rfl⟩,.inr ⟨q2,.inr ⟨rfl,rfl⟩,rfl,Nat.zero_le _,rfl⟩⟩
 clear hO
 rintro k l' H ⟨y,v1,v2,c1,c2,hy,rfl,rfl,hO,o1,o2⟩
 unfold zxl
 try simp only[zea,zfa]
 refine zaa zNa ?_
 refine zia (fun h=>?_) (fun h=>?_)
 ·have hy:y < 64:=by omega
  have hg:=zFc (zQn hb) y
  refine zva (fun l' H'=>l'=[v',x,ptr p4 0,v1,v2,int y,zsb .u8 ((zPi key).getD y 0).toNat]∧H'=H) ?_ ?_
  ·refine zra hr.lenSl ?_
   refine zaa zNa ?_
   refine zia (fun h=>?_) (fun h=>?_)
   ·refine zFo hO hr.app.app.app (zQn hb) (n:=y) rfl (by omega) ?_
    exact⟨rfl,rfl⟩
   ·refine⟨?_,rfl⟩
    rw[List.getD_eq_getElem?_getD,List.getElem?_eq_none (by omega)]; rfl
  rintro l' H' ⟨rfl,rfl⟩
  try simp only[zea,zfa]
  have x1:=zdt hg (w:=54) (by omega)
  have x2:=zdt hg (w:=92) (by omega)
  refine zaa (ztb (k:=.u8) (b:=54) rfl hg (show _ < 256 by omega)) ?_
  refine zya hO (zbu _ _ _) ?_
  clear hO
  intro q3 H hO
  replace hO:St H (((Γ++[(p4,⟨List.replicate 32 (zsb .u8 0),true⟩)])++zMa v1 c1++zMa v2 c2)++[(q3,⟨by8 [zDv ((zPi key).getD y 0) 54],true⟩)]):=hO
  replace hO:St H (((Γ++[(p4,⟨List.replicate 32 (zsb .u8 0),true⟩)])++zMa v2 c2++zMa v1 c1)++[(q3,⟨by8 [zDv ((zPi key).getD y 0) 54],true⟩)]):=hO.perm (by classical exact List.perm_iff_count.2 fun _=>by simp only[List.count_append,List.count_nil,List.set_cons_zero]; omega)
  refine zEb hO o1 (by simp[zxb]; omega) rfl (.inr rfl) ?_
  clear hO
  intro H v3 c3 hO o3
  rw[← zXr hy] at o3
  refine zaa (ztb (k:=.u8) (b:=92) rfl hg (show _ < 256 by omega)) ?_
  refine zya hO (zbu _ _ _) ?_
  clear hO
  intro q4 H hO
  replace hO:St H (((Γ++[(p4,⟨List.replicate 32 (zsb .u8 0),true⟩)])++zMa v2 c2++zMa v3 c3)++[(q4,⟨by8 [zDv ((zPi key).getD y 0) 92],true⟩)]):=hO
  replace hO:St H (((Γ++[(p4,⟨List.replicate 32 (zsb .u8 0),true⟩)])++zMa v3 c3++zMa v2 c2)++[(q4,⟨by8 [zDv ((zPi key).getD y 0) 92],true⟩)]):=hO.perm (by classical exact List.perm_iff_count.2 fun _=>by simp only[List.count_append,List.count_nil,List.set_cons_zero]; omega)
  refine zEb hO o2 (by simp[zxb]; omega) rfl (.inr rfl) ?_
  clear hO
  intro H v4 c4 hO o4
  rw[← zXr hy] at o4
  repeat (first|refine oi ?_|refine ow ?_|refine wy ?_|refine wn ?_|refine wt ?_|refine wf' ?_|refine cy ?_|refine cn ?_)
  exact⟨64 - (y+1),by omega,y+1,v3,v4,c3,c4,by omega,rfl,rfl,hO,o3,o4⟩
 ·have e:y=64:=by omega
  subst e
  rw[List.take_of_length_le (by rw[zxb]; omega)] at o1 o2
  refine zSa rfl ?_
  try simp only[zea,zfa]
  replace hO:=hO.rot
  refine zAb hO o1 hx.app.app (by rw[zxb]; omega) ?_
  clear hO
  intro H v3 c3 hO o3
  refine zPn hO o3.rd.app' (zRb (zbl (by omega) hb) hm) (by simp[zxb]; omega) ?_
  clear hO
  intro H hO
  replace hO:=hO.left
  refine zVa hO ?_
  clear hO
  intro p5 H hO
  refine zsa hO (_+0) (zxa rfl) (by simp) (by simp[zYb]) (zoc _) ?_
  clear hO
  intro H hO
  replace hO:=hO.set_r
  refine zaa (zWc hO (_+0) (zxa rfl) (by omega) (by simp[zYb])) ?_
  refine zEb (ys:=sha (zko key 54++ms)) hO o2 (by simp[zxb,zYb]) (by rw[zYb]) (.inr rfl) ?_
  clear hO
  intro H v4 c4 hO o4
  refine zPn hO o4.rd.app' (zRb (zbl (by omega) hb) zlu) (by simp[zxb,zYb]) ?_
  clear hO
  intro H hO
  replace hO:=hO.left
  refine sw hO 0 rfl (by simp) (by simp[zYb]) (zoc _) ?_
  clear hO
  intro H hO
  refine lw hO 0 rfl (by simp[zYb]) (by omega) ?_
  exact hk H hO.left
end J
