/- Contract: glob.Overlap. Written by gen13.py. No condition. -/
import Derived.Test.YtpoefbbfhebakaaGreatDoorF5
set_option linter.unusedVariables false
set_option linter.unusedSimpArgs false
open Go Go.Proofs Go.RowKit
namespace Qv
theorem ovV_nn' {x y : List Comp} {k t : Nat} (hk : k = x.length) (ht : t = y.length) : ovV x y k t = true := by subst hk; subst ht; exact ovV_nn
theorem ovV_cn' {x y : List Comp} {k t : Nat} {c : Comp} (ht : t = y.length) (h : x[k]? = some c) : ovV x y k t = (c.deep && ovV x y (k + 1) t) := by subst ht; exact ovV_cn h
theorem ovV_nc' {x y : List Comp} {k t : Nat} {d : Comp} (hk : k = x.length) (h : y[t]? = some d) : ovV x y k t = (d.deep && ovV x y k (t + 1)) := by subst hk; exact ovV_nc h
theorem parseF_tiny (g : Bytes) : (parseF g).1.length ≤ 2 ^ 20 ∧ (∀ c,c ∈ (parseF g).1 → c.ones.length ≤ 2 ^ 20) ∧ ∀ c,c ∈ (parseF g).1 → ∀ a,a ∈ c.ones → a.fine := by
 unfold parseF
 split
 ·exact ⟨by simp,by simp,by simp⟩
 ·split
  ·exact ⟨by simp,by simp,by simp⟩
  ·rename_i hg l hl
   obtain ⟨h1,h2⟩ := compsGo_all hl
   have h3 := parts_length 47 g
   have h4 := parts_mem 47 g
   have each : ∀ c,c ∈ l → c.ones.length ≤ 2 ^ 20 ∧ ∀ a,a ∈ c.ones → a.fine := fun c hc => by
    rcases h2 c hc with h | ⟨p,hp,he⟩
    ·cases h
    ·obtain ⟨h5,h6⟩ := compF_fine he
     have := h4 p hp
     exact ⟨by omega,h6⟩
   refine ⟨?_,fun c hc => (each c hc).1,fun c hc => (each c hc).2⟩
   show l.length ≤ 2 ^ 20
   rw [h1,List.length_nil]
   omega
abbrev ovS (x y : List Comp) (more : List (Nat × FV)) : List (Nat × FV) := (5,.p (.sl (encComps x))) :: (7,.p (.sl (encComps y))) :: (9,.osl 31 39 1) :: more
set_option maxRecDepth 100000 in
set_option maxHeartbeats 100000000 in
theorem over_ok (g h : Bytes) (hg : g.length ≤ 2 ^ 30) (hh : h.length ≤ 2 ^ 30) : CallsTo C 126 [.str g,.str h] (fun r => r = .val (.bool (overF g h))) := by
 refine callsTo_of_evO ⟨[],[8],false,[],[],[]⟩ [13] Tryz.func126 rfl rfl rfl ?_
 refine ⟨_,(parse_ok g hg).opn,fun r hr => ?_⟩
 subst hr
 refine ⟨_,(parse_ok h hh).opn,fun r hr => ?_⟩
 subst hr
 obtain ⟨hxl,hxo,hxf⟩ := parseF_tiny g
 obtain ⟨hyl,hyo,hyf⟩ := parseF_tiny h
 have hov : overF g h = (decide ((parseF g).2 = 0) && decide ((parseF h).2 = 0) && ovE comB (parseF g).1 (parseF h).1) := rfl
 rw [hov]
 generalize (parseF g).1 = x at hxl hxo hxf ⊢
 generalize (parseF h).1 = y at hyl hyo hyf ⊢
 generalize (parseF g).2 = e1
 generalize (parseF h).2 = e2
 have hlx : ((encComps x).length : Int) = (x.length : Int) := by simp [encComps]
 have hly : ((encComps y).length : Int) = (y.length : Int) := by simp [encComps]
 have hwx : IntKind.i64.wrap (((encComps x).length : Int) + 1) = ((x.length + 1 : Nat) : Int) := by rw [hlx,wrap64 (by omega) (by omega)]; omega
 have hwy : IntKind.i64.wrap (((encComps y).length : Int) + 1) = ((y.length + 1 : Nat) : Int) := by rw [hly,wrap64 (by omega) (by omega)]; omega
 refine ⟨none,?_⟩
 refine al_ne (fun h1 => ?_) (fun h1 => ?_)
 ·show _ = _
  have h1 : e1 ≠ 0 := h1
  rw [decide_eq_false h1]; rfl
 have h1 : e1 = 0 := h1
 refine al_ne (fun h2 => ?_) (fun h2 => ?_)
 ·show _ = _
  have h2 : e2 ≠ 0 := h2
  rw [decide_eq_false h2,Bool.and_false]; rfl
 have h2 : e2 = 0 := h2
 rw [decide_eq_true h1,decide_eq_true h2,Bool.true_and,Bool.true_and]
 refine ⟨_,hwx,x.length + 1,rfl,rfl,by omega,by omega,headO x y (x.length + 1),?_,?_⟩
 ·unfold headO
  rw [rowsF_end,List.append_nil]
  exact kill_rep _ _ _ rfl
 refine loopR 202 (fun n : Nat => ovS x y [(10,.p (.int .i64 ((n : Int) - 1)))]) (fun n => [(31,headO x y n)]) (fun n => n ≤ x.length + 1) (fun n => n) (x.length + 1) (Nat.le_refl _) rfl ⟨wR,wR,wR,Weak.eq (by show FV.p (.int .i64 ((encComps x).length : Int)) = FV.p (.int .i64 (((x.length + 1 : Nat) : Int) - 1)); rw [hlx]; congr 2; omega),trivial⟩ ⟨hO1 rfl,trivial⟩ ?_
 intro n hn
 have hn : n ≤ x.length + 1 := hn
 refine al_dec (fun hge => ?_) (fun hlt => ?_)
 case refine_2 =>
  have hn0 : n = 0 := by
   have : ¬ ((n : Int) - 1 ≥ 0) := hlt
   omega
  subst hn0
  refine ⟨0,0,rfl,rfl,by rw [headO_len (by omega)]; omega,[],[.p (.sl (rowA x y 0))],rowsF x y 1,?_,rfl,?_⟩
  ·show rowsF x y 0 = _
   rw [rowsF_cons (by omega)]; rfl
  refine ⟨by omega,[.bool (ovV x y 0 0)],rowA_at (t := 0) (by omega) rfl,rfl,?_⟩
  exact rfl
 obtain ⟨i,rfl⟩ : ∃ i,n = i + 1 := ⟨n - 1,by
  have : (n : Int) - 1 ≥ 0 := hge
  omega⟩
 have hi1 : i < x.length + 1 := by omega
 have hii : ((i + 1 : Nat) : Int) - 1 = (i : Int) := by omega
 refine ⟨_,hwy,y.length + 1,rfl,rfl,by omega,by omega,List.replicate (y.length + 1) (.p (.bool false)),kill_rep _ _ _ rfl,?_⟩
 refine ⟨i,i * 1,hii,rfl,by rw [kill_head,headO_len (by omega)]; omega,?_⟩
 refine ⟨List.replicate i (.full []),[.full []],rowsF x y (i + 1),(kill_head _ _ _ _).trans (headO_split x y i),by simp,rowsO x y i,rfl,?_⟩
 refine loopR 202 (fun m : Nat => ovS x y [(10,.p (.int .i64 (i : Int))),(11,.p (.int .i64 ((m : Int) - 1)))]) (fun m => [(31,rowsO x y i),(43,cellsO x y i m)]) (fun m => m ≤ y.length + 1) (fun m => m) (y.length + 1) (Nat.le_refl _) rfl ⟨wR,wR,wR,Weak.eq (by show FV.p (.int .i64 (((i + 1 : Nat) : Int) - 1)) = FV.p (.int .i64 (i : Int)); rw [hii]),Weak.eq (by show FV.p (.int .i64 ((encComps y).length : Int)) = FV.p (.int .i64 (((y.length + 1 : Nat) : Int) - 1)); rw [hly]; congr 2; omega),trivial⟩ ⟨hO1 rfl,hasO_eq rfl (by show List.replicate (y.length + 1) (FV.p (.bool false)) = List.replicate (y.length + 1) (FV.p (.bool false)) ++ rowF x y i (y.length + 1); rw [rowF_end,List.append_nil]),trivial⟩ ?_
 intro m hm
 have hm : m ≤ y.length + 1 := hm
 refine al_dec (fun hge2 => ?_) (fun hlt2 => ?_)
 case refine_2 =>
  have hm0 : m = 0 := by
   have : ¬ ((m : Int) - 1 ≥ 0) := hlt2
   omega
  subst hm0
  refine ⟨43,1,rowA x y i,⟨⟨_,rfl,by rw [rowA_flat]; exact toAVs_mapP _⟩,rowA_all x y i⟩,?_⟩
  refine ⟨(i : Int) - 1,wrap64 (by omega) (by omega),?_⟩
  exact roundR i (by show i ≤ x.length + 1; omega) (by show i < i + 1; omega) rfl ⟨wR,wR,wR,wR,trivial⟩ ⟨hasO_rows hi1 rfl rfl,trivial⟩
 obtain ⟨j,rfl⟩ : ∃ j,m = j + 1 := ⟨m - 1,by
  have : (m : Int) - 1 ≥ 0 := hge2
  omega⟩
 have hjj : ((j + 1 : Nat) : Int) - 1 = (j : Int) := by omega
 have hwm : IntKind.i64.wrap ((j : Int) - 1) = (j : Int) - 1 := wrap64 (by omega) (by omega)
 have hwi : IntKind.i64.wrap ((i : Int) + 1) = ((i + 1 : Nat) : Int) := by rw [wrap64 (by omega) (by omega)]; omega
 have hwj : IntKind.i64.wrap ((j : Int) + 1) = ((j + 1 : Nat) : Int) := by rw [wrap64 (by omega) (by omega)]; omega
 refine cutR 202 (ovS x y [(10,.p (.int .i64 (i : Int))),(11,.p (.int .i64 (j : Int)))]) [(31,rowsO x y i),(43,cellsO x y i (j + 1))] rfl ⟨wR,wR,wR,wR,Weak.eq (by show FV.p (.int .i64 (((j + 1 : Nat) : Int) - 1)) = FV.p (.int .i64 (j : Int)); rw [hjj]),trivial⟩ ⟨hO1 rfl,hO1 rfl,trivial⟩ ?_
 refine ⟨.lex 146,drawOK_of [0,0,3,7,0,0,0,64,224,480,992,992,3040,8160,16352,32736,65504,65504,196576,524256,1048544,2097120,2097120,8388576,16777184,33554400,67108832,134217696,268435424,268435424,805306336,2147483616,4294967264,268435424,17179869152,34359738336,68719476704,137438953440,137438953440,412316860384,1099511627744,2199023255520,4398046511072,4398046511072,17592186044384,35184372088800,4398046511072,74766790688736,281474976710624,562949953421280,1125899906842592,2251799813685216,4503599627370464,9007199254740960,18014398509481952,36028797018963936,36028797018963936,108086391056891872,288230376151711712,576460752303423456,1152921504606846944,1152921504606846944,4611686018427387872,9223372036854775776,18446744073709551584,36893488147419103200,73786976294838206432,147573952589676412896,147573952589676412896,590295810358705651680,1180591620717411303392,147573952589676412896,2508757194024499019744,9444732965739290427360,18889465931478580854752,37778931862957161709536,75557863725914323419104,75557863725914323419104,226673591177742970257376,604462909807314587353056,1208925819614629174706144,2417851639229258349412320,2417851639229258349412320,7253554917687775048237024,19342813113834066795298784,38685626227668133590597600,2417851639229258349412320,154742504910672534362390496,309485009821345068724781024,618970019642690137449562080,1237940039285380274899124192,2475880078570760549798248416,4951760157141521099596496864,9903520314283042199192993760,19807040628566084398385987552,19807040628566084398385987552,59421121885698253195157962720,158456325028528675187087900640,316912650057057350374175801312,633825300114114700748351602656,633825300114114700748351602656,1901475900342344102245054808032,5070602400912917605986812821472,10141204801825835211973625642976,20282409603651670423947251285984,40564819207303340847894502572000,40564819207303340847894502572000,162259276829213363391578010288096,324518553658426726783156020576224,649037107316853453566312041152480,1298074214633706907132624082304992,2596148429267413814265248164610016,5192296858534827628530496329220064,10384593717069655257060992658440160,10384593717069655257060992658440160,41538374868278621028243970633760736,83076749736557242056487941267521504,166153499473114484112975882535043040,332306998946228968225951765070086112,664613997892457936451903530140172256,1329227995784915872903807060280344544,2658455991569831745807614120560689120,2658455991569831745807614120560689120,7975367974709495237422842361682067424,21267647932558653966460912964485513184,42535295865117307932921825928971026400,2658455991569831745807614120560689120,87729047721804447611651265978502741984,340282366920938463463374607431768211424,680564733841876926926749214863536422880,1361129467683753853853498429727072845792,2722258935367507707706996859454145691616,5444517870735015415413993718908291383264,5444517870735015415413993718908291383264,21778071482940061661655974875633165533152,43556142965880123323311949751266331066336,87112285931760246646623899502532662132704,5444517870735015415413993718908291383264,5444517870735015415413993718908291383264,528118233461296495295157390734104264179680,1225016520915378468468148586754365561241568,2618813095823542414814130978794888155365344,5575186299632655785383929568162090376495072,11150372599265311570767859136324180752990176,22300745198530623141535718272648361505980384,44601490397061246283071436545296723011960831,89202980794122492566142873090593446023921663] (by kernel_rfl) (by kernel_rfl),?_⟩
 by_cases hic : i < x.length
 case pos =>
  have hiE : ((i : Int) == ((encComps x).length : Int)) = false := by rw [beq_eq_false_iff_ne]; omega
  have hiL : decide ((i : Int) < ((encComps x).length : Int)) = true := decide_eq_true (by omega)
  obtain ⟨⟨dx,ox⟩,hx0⟩ : ∃ c,x[i]? = some c := ⟨_,List.getElem?_eq_getElem hic⟩
  have hxm := List.mem_of_getElem? hx0
  have hxi : (encComps x)[((i : Nat) : Int).toNat]? = some [.bool dx,.sl (encOnes ox)] := by simp [encComps,hx0,Comp.enc]
  by_cases hjc : j < y.length
  case pos =>
   have hjE : ((j : Int) == ((encComps y).length : Int)) = false := by rw [beq_eq_false_iff_ne]; omega
   have hjL : decide ((j : Int) < ((encComps y).length : Int)) = true := decide_eq_true (by omega)
   obtain ⟨⟨dy,oy⟩,hy0⟩ : ∃ c,y[j]? = some c := ⟨_,List.getElem?_eq_getElem hjc⟩
   have hym := List.mem_of_getElem? hy0
   have hyj : (encComps y)[((j : Nat) : Int).toNat]? = some [.bool dy,.sl (encOnes oy)] := by simp [encComps,hy0,Comp.enc]
   have hcom : CallsTo C 163 [.sl (encOnes ox),.sl (encOnes oy)] (fun r => r = .val (.bool (comB ox oy))) := (common_ok ox oy (hxo _ hxm) (hyo _ hym) (hxf _ hxm) (hyf _ hym)).mono fun r hr => by obtain ⟨t,rfl,ht⟩ := hr; rw [comB_of ht]
   cases dx with
   | false =>
     cases dy with
     | false =>
       refine ⟨_,rfl,?_⟩
       refine ⟨_,rfl,?_⟩
       refine ⟨_,⟨i,i * 1,rfl,rfl,by rw [rowsO_len hi1]; omega,rfl⟩,?_⟩
       refine ⟨.osl 43 4 1,⟨_,_,_,rowsO_here x y i,by simp,rfl⟩,?_⟩
       refine ⟨_,rfl,?_⟩
       refine ⟨_,rfl,?_⟩
       refine ⟨_,rfl,?_⟩
       refine ⟨_,rfl,?_⟩
       refine ⟨.p (.bool false),⟨fun t ht => by rw [ht]; exact congrArg (fun b => FV.p (AV.bool b)) hiE⟩,?_⟩
       refine ⟨_,rfl,?_⟩
       refine ⟨_,rfl,?_⟩
       refine ⟨_,rfl,?_⟩
       refine ⟨_,rfl,?_⟩
       refine ⟨_,rfl,?_⟩
       refine ⟨_,rfl,?_⟩
       refine ⟨.p (.bool true),⟨fun t ht => by rw [ht]; exact congrArg (fun b => FV.p (AV.bool b)) hiL⟩,?_⟩
       refine ⟨_,rfl,?_⟩
       refine ⟨_,rfl,?_⟩
       refine ⟨_,rfl,?_⟩
       refine ⟨.p (.imp [.bool false,.sl (encOnes ox)]),⟨by omega,_,hxi,rfl,rfl⟩,?_⟩
       refine ⟨_,rfl,?_⟩
       refine ⟨_,rfl,?_⟩
       refine ⟨_,rfl,?_⟩
       refine ⟨_,rfl,?_⟩
       refine ⟨_,rfl,?_⟩
       refine ⟨_,rfl,?_⟩
       refine ⟨_,rfl,?_⟩
       refine ⟨_,rfl,?_⟩
       refine ⟨_,rfl,?_⟩
       refine ⟨_,rfl,?_⟩
       refine ⟨.p (.bool true),⟨fun t ht => by rw [ht]; exact congrArg (fun b => FV.p (AV.bool b)) hjL⟩,?_⟩
       refine ⟨_,rfl,?_⟩
       refine ⟨_,rfl,?_⟩
       refine ⟨_,rfl,?_⟩
       refine ⟨.p (.imp [.bool false,.sl (encOnes oy)]),⟨by omega,_,hyj,rfl,rfl⟩,?_⟩
       refine ⟨_,rfl,?_⟩
       refine ⟨_,rfl,?_⟩
       refine ⟨_,rfl,?_⟩
       refine ⟨_,rfl,?_⟩
       refine ⟨_,rfl,?_⟩
       refine ⟨_,rfl,?_⟩
       refine ⟨_,rfl,?_⟩
       refine ⟨_,rfl,?_⟩
       refine ⟨_,rfl,?_⟩
       refine ⟨_,rfl,?_⟩
       refine ⟨.p (.bool true),⟨fun t ht => by rw [ht]; exact congrArg (fun b => FV.p (AV.bool b)) hiL⟩,?_⟩
       refine ⟨_,rfl,?_⟩
       refine ⟨_,rfl,?_⟩
       refine ⟨_,rfl,?_⟩
       refine ⟨_,rfl,?_⟩
       refine ⟨.p (.bool true),⟨fun t ht => by rw [ht]; exact congrArg (fun b => FV.p (AV.bool b)) hjL⟩,?_⟩
       refine ⟨_,rfl,?_⟩
       refine ⟨_,rfl,?_⟩
       refine ⟨_,rfl,?_⟩
       refine ⟨_,rfl,?_⟩
       refine ⟨.p (.imp [.bool false,.sl (encOnes ox)]),⟨by omega,_,hxi,rfl,rfl⟩,?_⟩
       refine ⟨_,rfl,?_⟩
       refine ⟨_,rfl,?_⟩
       refine ⟨.p (.bool true),⟨fun t ht => by rw [ht]; rfl⟩,?_⟩
       refine ⟨_,rfl,?_⟩
       refine ⟨_,rfl,?_⟩
       refine ⟨_,rfl,?_⟩
       refine ⟨_,rfl,?_⟩
       refine ⟨.p (.imp [.bool false,.sl (encOnes oy)]),⟨by omega,_,hyj,rfl,rfl⟩,?_⟩
       refine ⟨_,rfl,?_⟩
       refine ⟨_,rfl,?_⟩
       refine ⟨.p (.bool true),⟨fun t ht => by rw [ht]; rfl⟩,?_⟩
       refine ⟨_,rfl,?_⟩
       refine ⟨_,rfl,?_⟩
       refine ⟨_,rfl,?_⟩
       refine ⟨_,rfl,?_⟩
       refine ⟨_,⟨_,hwi,rfl⟩,?_⟩
       refine ⟨_,⟨(i + 1),(i + 1) * 1,rfl,rfl,by rw [rowsO_len hi1]; omega,rfl⟩,?_⟩
       refine ⟨.p (.sl (rowA x y (i + 1))),⟨_,_,_,rowsO_next (by omega),by simp,rfl⟩,?_⟩
       refine ⟨_,rfl,?_⟩
       refine ⟨_,⟨_,hwj,rfl⟩,?_⟩
       cases hv11 : ovV x y (i + 1) (j + 1) with
       | false =>
         refine ⟨.p (.imp [.bool false]),⟨by omega,_,rowA_at (by omega) hv11,rfl,rfl⟩,?_⟩
         refine ⟨_,rfl,?_⟩
         refine ⟨_,rfl,?_⟩
         refine ⟨_,rfl,?_⟩
         refine ⟨_,rfl,?_⟩
         refine ⟨_,rfl,?_⟩
         refine ⟨_,⟨j,j * 1,rfl,rfl,by rw [cellsO_len (by omega)]; omega,rfl⟩,?_⟩
         have hb : ovV x y i j = false := by
          rw [ovV_cc hx0 hy0,hv11]; simp
         refine ⟨_,_,_,cellsO_here x y i j,by simp,_,cellsO_put (by omega) hb,?_⟩
         exact ⟨_,hwm,roundR j (by show j ≤ y.length + 1; omega) (by show j < j + 1; omega) rfl ⟨wR,wR,wR,wR,wR,trivial⟩ ⟨hO1 rfl,hO1 rfl,trivial⟩⟩
       | true =>
         refine ⟨.p (.imp [.bool true]),⟨by omega,_,rowA_at (by omega) hv11,rfl,rfl⟩,?_⟩
         refine ⟨_,rfl,?_⟩
         refine ⟨_,rfl,?_⟩
         refine ⟨_,rfl,?_⟩
         refine ⟨_,rfl,?_⟩
         refine ⟨_,rfl,?_⟩
         refine ⟨.p (.imp [.bool false,.sl (encOnes ox)]),⟨by omega,_,hxi,rfl,rfl⟩,?_⟩
         refine ⟨_,rfl,?_⟩
         refine ⟨_,rfl,?_⟩
         refine ⟨_,rfl,?_⟩
         refine ⟨_,rfl,?_⟩
         refine ⟨.p (.imp [.bool false,.sl (encOnes oy)]),⟨by omega,_,hyj,rfl,rfl⟩,?_⟩
         refine ⟨_,rfl,?_⟩
         refine ⟨_,rfl,?_⟩
         refine ⟨.p (.bool (comB ox oy)),⟨_,hcom.opn,fun r hr => by subst hr; rfl⟩,?_⟩
         refine ⟨_,rfl,?_⟩
         refine ⟨_,rfl,?_⟩
         refine ⟨_,⟨j,j * 1,rfl,rfl,by rw [cellsO_len (by omega)]; omega,rfl⟩,?_⟩
         have hb : ovV x y i j = comB ox oy := by
          rw [ovV_cc hx0 hy0,hv11]; simp
         refine ⟨_,_,_,cellsO_here x y i j,by simp,_,cellsO_put (by omega) hb,?_⟩
         exact ⟨_,hwm,roundR j (by show j ≤ y.length + 1; omega) (by show j < j + 1; omega) rfl ⟨wR,wR,wR,wR,wR,trivial⟩ ⟨hO1 rfl,hO1 rfl,trivial⟩⟩
     | true =>
       refine ⟨_,rfl,?_⟩
       refine ⟨_,rfl,?_⟩
       refine ⟨_,⟨i,i * 1,rfl,rfl,by rw [rowsO_len hi1]; omega,rfl⟩,?_⟩
       refine ⟨.osl 43 4 1,⟨_,_,_,rowsO_here x y i,by simp,rfl⟩,?_⟩
       refine ⟨_,rfl,?_⟩
       refine ⟨_,rfl,?_⟩
       refine ⟨_,rfl,?_⟩
       refine ⟨_,rfl,?_⟩
       refine ⟨.p (.bool false),⟨fun t ht => by rw [ht]; exact congrArg (fun b => FV.p (AV.bool b)) hiE⟩,?_⟩
       refine ⟨_,rfl,?_⟩
       refine ⟨_,rfl,?_⟩
       refine ⟨_,rfl,?_⟩
       refine ⟨_,rfl,?_⟩
       refine ⟨_,rfl,?_⟩
       refine ⟨_,rfl,?_⟩
       refine ⟨.p (.bool true),⟨fun t ht => by rw [ht]; exact congrArg (fun b => FV.p (AV.bool b)) hiL⟩,?_⟩
       refine ⟨_,rfl,?_⟩
       refine ⟨_,rfl,?_⟩
       refine ⟨_,rfl,?_⟩
       refine ⟨.p (.imp [.bool false,.sl (encOnes ox)]),⟨by omega,_,hxi,rfl,rfl⟩,?_⟩
       refine ⟨_,rfl,?_⟩
       refine ⟨_,rfl,?_⟩
       refine ⟨_,rfl,?_⟩
       refine ⟨_,rfl,?_⟩
       refine ⟨_,rfl,?_⟩
       refine ⟨_,rfl,?_⟩
       refine ⟨_,rfl,?_⟩
       refine ⟨_,rfl,?_⟩
       refine ⟨_,rfl,?_⟩
       refine ⟨_,rfl,?_⟩
       refine ⟨.p (.bool true),⟨fun t ht => by rw [ht]; exact congrArg (fun b => FV.p (AV.bool b)) hjL⟩,?_⟩
       refine ⟨_,rfl,?_⟩
       refine ⟨_,rfl,?_⟩
       refine ⟨_,rfl,?_⟩
       refine ⟨.p (.imp [.bool true,.sl (encOnes oy)]),⟨by omega,_,hyj,rfl,rfl⟩,?_⟩
       refine ⟨_,rfl,?_⟩
       refine ⟨_,rfl,?_⟩
       refine ⟨_,rfl,?_⟩
       refine ⟨_,rfl,?_⟩
       refine ⟨_,rfl,?_⟩
       refine ⟨_,rfl,?_⟩
       refine ⟨_,⟨i,i * 1,rfl,rfl,by rw [rowsO_len hi1]; omega,rfl⟩,?_⟩
       refine ⟨.osl 43 4 1,⟨_,_,_,rowsO_here x y i,by simp,rfl⟩,?_⟩
       refine ⟨_,rfl,?_⟩
       refine ⟨_,⟨_,hwj,rfl⟩,?_⟩
       refine ⟨_,⟨(j + 1),(j + 1) * 1,rfl,rfl,by rw [cellsO_len (by omega)]; omega,rfl⟩,?_⟩
       cases hv01 : ovV x y i (j + 1) with
       | false =>
         refine ⟨.p (.bool false),⟨_,_,_,cellsO_next (by omega) hv01,by simp,rfl⟩,?_⟩
         refine ⟨_,rfl,?_⟩
         refine ⟨_,rfl,?_⟩
         refine ⟨_,rfl,?_⟩
         refine ⟨_,rfl,?_⟩
         refine ⟨.p (.bool true),⟨fun t ht => by rw [ht]; exact congrArg (fun b => FV.p (AV.bool b)) hiL⟩,?_⟩
         refine ⟨_,rfl,?_⟩
         refine ⟨_,rfl,?_⟩
         refine ⟨_,rfl,?_⟩
         refine ⟨_,⟨_,hwi,rfl⟩,?_⟩
         refine ⟨_,⟨(i + 1),(i + 1) * 1,rfl,rfl,by rw [rowsO_len hi1]; omega,rfl⟩,?_⟩
         refine ⟨.p (.sl (rowA x y (i + 1))),⟨_,_,_,rowsO_next (by omega),by simp,rfl⟩,?_⟩
         refine ⟨_,rfl,?_⟩
         cases hv10 : ovV x y (i + 1) j with
         | false =>
           refine ⟨.p (.imp [.bool false]),⟨by omega,_,rowA_at (by omega) hv10,rfl,rfl⟩,?_⟩
           refine ⟨_,rfl,?_⟩
           refine ⟨_,rfl,?_⟩
           refine ⟨_,rfl,?_⟩
           refine ⟨_,rfl,?_⟩
           refine ⟨_,rfl,?_⟩
           refine ⟨_,rfl,?_⟩
           refine ⟨_,rfl,?_⟩
           refine ⟨_,rfl,?_⟩
           refine ⟨_,rfl,?_⟩
           refine ⟨.p (.bool true),⟨fun t ht => by rw [ht]; exact congrArg (fun b => FV.p (AV.bool b)) hiL⟩,?_⟩
           refine ⟨_,rfl,?_⟩
           refine ⟨_,rfl,?_⟩
           refine ⟨_,rfl,?_⟩
           refine ⟨_,rfl,?_⟩
           refine ⟨.p (.bool true),⟨fun t ht => by rw [ht]; exact congrArg (fun b => FV.p (AV.bool b)) hjL⟩,?_⟩
           refine ⟨_,rfl,?_⟩
           refine ⟨_,rfl,?_⟩
           refine ⟨_,rfl,?_⟩
           refine ⟨_,rfl,?_⟩
           refine ⟨.p (.imp [.bool false,.sl (encOnes ox)]),⟨by omega,_,hxi,rfl,rfl⟩,?_⟩
           refine ⟨_,rfl,?_⟩
           refine ⟨_,rfl,?_⟩
           refine ⟨.p (.bool true),⟨fun t ht => by rw [ht]; rfl⟩,?_⟩
           refine ⟨_,rfl,?_⟩
           refine ⟨_,rfl,?_⟩
           refine ⟨_,rfl,?_⟩
           refine ⟨_,rfl,?_⟩
           refine ⟨.p (.imp [.bool true,.sl (encOnes oy)]),⟨by omega,_,hyj,rfl,rfl⟩,?_⟩
           refine ⟨_,rfl,?_⟩
           refine ⟨_,rfl,?_⟩
           refine ⟨.p (.bool false),⟨fun t ht => by rw [ht]; rfl⟩,?_⟩
           refine ⟨_,rfl,?_⟩
           refine ⟨_,rfl,?_⟩
           refine ⟨_,rfl,?_⟩
           refine ⟨_,rfl,?_⟩
           refine ⟨_,rfl,?_⟩
           refine ⟨_,rfl,?_⟩
           refine ⟨_,⟨j,j * 1,rfl,rfl,by rw [cellsO_len (by omega)]; omega,rfl⟩,?_⟩
           have hb : ovV x y i j = false := by
            rw [ovV_cc hx0 hy0,hv10,hv01]; simp
           refine ⟨_,_,_,cellsO_here x y i j,by simp,_,cellsO_put (by omega) hb,?_⟩
           exact ⟨_,hwm,roundR j (by show j ≤ y.length + 1; omega) (by show j < j + 1; omega) rfl ⟨wR,wR,wR,wR,wR,trivial⟩ ⟨hO1 rfl,hO1 rfl,trivial⟩⟩
         | true =>
           refine ⟨.p (.imp [.bool true]),⟨by omega,_,rowA_at (by omega) hv10,rfl,rfl⟩,?_⟩
           refine ⟨_,rfl,?_⟩
           refine ⟨_,rfl,?_⟩
           refine ⟨_,rfl,?_⟩
           refine ⟨_,rfl,?_⟩
           refine ⟨_,rfl,?_⟩
           refine ⟨_,rfl,?_⟩
           refine ⟨_,rfl,?_⟩
           refine ⟨_,⟨j,j * 1,rfl,rfl,by rw [cellsO_len (by omega)]; omega,rfl⟩,?_⟩
           have hb : ovV x y i j = true := by
            rw [ovV_cc hx0 hy0,hv10,hv01]; simp
           refine ⟨_,_,_,cellsO_here x y i j,by simp,_,cellsO_put (by omega) hb,?_⟩
           exact ⟨_,hwm,roundR j (by show j ≤ y.length + 1; omega) (by show j < j + 1; omega) rfl ⟨wR,wR,wR,wR,wR,trivial⟩ ⟨hO1 rfl,hO1 rfl,trivial⟩⟩
       | true =>
         refine ⟨.p (.bool true),⟨_,_,_,cellsO_next (by omega) hv01,by simp,rfl⟩,?_⟩
         refine ⟨_,rfl,?_⟩
         refine ⟨_,rfl,?_⟩
         refine ⟨_,rfl,?_⟩
         refine ⟨_,rfl,?_⟩
         refine ⟨_,rfl,?_⟩
         refine ⟨_,rfl,?_⟩
         refine ⟨_,⟨j,j * 1,rfl,rfl,by rw [cellsO_len (by omega)]; omega,rfl⟩,?_⟩
         have hb : ovV x y i j = true := by
          rw [ovV_cc hx0 hy0,hv01]; simp
         refine ⟨_,_,_,cellsO_here x y i j,by simp,_,cellsO_put (by omega) hb,?_⟩
         exact ⟨_,hwm,roundR j (by show j ≤ y.length + 1; omega) (by show j < j + 1; omega) rfl ⟨wR,wR,wR,wR,wR,trivial⟩ ⟨hO1 rfl,hO1 rfl,trivial⟩⟩
   | true =>
     cases dy with
     | false =>
       refine ⟨_,rfl,?_⟩
       refine ⟨_,rfl,?_⟩
       refine ⟨_,⟨i,i * 1,rfl,rfl,by rw [rowsO_len hi1]; omega,rfl⟩,?_⟩
       refine ⟨.osl 43 4 1,⟨_,_,_,rowsO_here x y i,by simp,rfl⟩,?_⟩
       refine ⟨_,rfl,?_⟩
       refine ⟨_,rfl,?_⟩
       refine ⟨_,rfl,?_⟩
       refine ⟨_,rfl,?_⟩
       refine ⟨.p (.bool false),⟨fun t ht => by rw [ht]; exact congrArg (fun b => FV.p (AV.bool b)) hiE⟩,?_⟩
       refine ⟨_,rfl,?_⟩
       refine ⟨_,rfl,?_⟩
       refine ⟨_,rfl,?_⟩
       refine ⟨_,rfl,?_⟩
       refine ⟨_,rfl,?_⟩
       refine ⟨_,rfl,?_⟩
       refine ⟨.p (.bool true),⟨fun t ht => by rw [ht]; exact congrArg (fun b => FV.p (AV.bool b)) hiL⟩,?_⟩
       refine ⟨_,rfl,?_⟩
       refine ⟨_,rfl,?_⟩
       refine ⟨_,rfl,?_⟩
       refine ⟨.p (.imp [.bool true,.sl (encOnes ox)]),⟨by omega,_,hxi,rfl,rfl⟩,?_⟩
       refine ⟨_,rfl,?_⟩
       refine ⟨_,rfl,?_⟩
       refine ⟨_,rfl,?_⟩
       refine ⟨_,rfl,?_⟩
       refine ⟨_,rfl,?_⟩
       refine ⟨_,rfl,?_⟩
       refine ⟨_,⟨_,hwi,rfl⟩,?_⟩
       refine ⟨_,⟨(i + 1),(i + 1) * 1,rfl,rfl,by rw [rowsO_len hi1]; omega,rfl⟩,?_⟩
       refine ⟨.p (.sl (rowA x y (i + 1))),⟨_,_,_,rowsO_next (by omega),by simp,rfl⟩,?_⟩
       refine ⟨_,rfl,?_⟩
       cases hv10 : ovV x y (i + 1) j with
       | false =>
         refine ⟨.p (.imp [.bool false]),⟨by omega,_,rowA_at (by omega) hv10,rfl,rfl⟩,?_⟩
         refine ⟨_,rfl,?_⟩
         refine ⟨_,rfl,?_⟩
         refine ⟨_,rfl,?_⟩
         refine ⟨_,rfl,?_⟩
         refine ⟨_,rfl,?_⟩
         refine ⟨.p (.bool true),⟨fun t ht => by rw [ht]; exact congrArg (fun b => FV.p (AV.bool b)) hjL⟩,?_⟩
         refine ⟨_,rfl,?_⟩
         refine ⟨_,rfl,?_⟩
         refine ⟨_,rfl,?_⟩
         refine ⟨_,⟨i,i * 1,rfl,rfl,by rw [rowsO_len hi1]; omega,rfl⟩,?_⟩
         refine ⟨.osl 43 4 1,⟨_,_,_,rowsO_here x y i,by simp,rfl⟩,?_⟩
         refine ⟨_,rfl,?_⟩
         refine ⟨_,⟨_,hwj,rfl⟩,?_⟩
         refine ⟨_,⟨(j + 1),(j + 1) * 1,rfl,rfl,by rw [cellsO_len (by omega)]; omega,rfl⟩,?_⟩
         cases hv01 : ovV x y i (j + 1) with
         | false =>
           refine ⟨.p (.bool false),⟨_,_,_,cellsO_next (by omega) hv01,by simp,rfl⟩,?_⟩
           refine ⟨_,rfl,?_⟩
           refine ⟨_,rfl,?_⟩
           refine ⟨_,rfl,?_⟩
           refine ⟨_,rfl,?_⟩
           refine ⟨_,rfl,?_⟩
           refine ⟨_,rfl,?_⟩
           refine ⟨_,rfl,?_⟩
           refine ⟨_,rfl,?_⟩
           refine ⟨.p (.bool true),⟨fun t ht => by rw [ht]; exact congrArg (fun b => FV.p (AV.bool b)) hjL⟩,?_⟩
           refine ⟨_,rfl,?_⟩
           refine ⟨_,rfl,?_⟩
           refine ⟨_,rfl,?_⟩
           refine ⟨.p (.imp [.bool false,.sl (encOnes oy)]),⟨by omega,_,hyj,rfl,rfl⟩,?_⟩
           refine ⟨_,rfl,?_⟩
           refine ⟨_,rfl,?_⟩
           refine ⟨_,rfl,?_⟩
           refine ⟨_,rfl,?_⟩
           refine ⟨_,rfl,?_⟩
           refine ⟨_,rfl,?_⟩
           refine ⟨_,rfl,?_⟩
           refine ⟨_,rfl,?_⟩
           refine ⟨_,rfl,?_⟩
           refine ⟨_,rfl,?_⟩
           refine ⟨.p (.bool true),⟨fun t ht => by rw [ht]; exact congrArg (fun b => FV.p (AV.bool b)) hiL⟩,?_⟩
           refine ⟨_,rfl,?_⟩
           refine ⟨_,rfl,?_⟩
           refine ⟨_,rfl,?_⟩
           refine ⟨_,rfl,?_⟩
           refine ⟨.p (.bool true),⟨fun t ht => by rw [ht]; exact congrArg (fun b => FV.p (AV.bool b)) hjL⟩,?_⟩
           refine ⟨_,rfl,?_⟩
           refine ⟨_,rfl,?_⟩
           refine ⟨_,rfl,?_⟩
           refine ⟨_,rfl,?_⟩
           refine ⟨.p (.imp [.bool true,.sl (encOnes ox)]),⟨by omega,_,hxi,rfl,rfl⟩,?_⟩
           refine ⟨_,rfl,?_⟩
           refine ⟨_,rfl,?_⟩
           refine ⟨.p (.bool false),⟨fun t ht => by rw [ht]; rfl⟩,?_⟩
           refine ⟨_,rfl,?_⟩
           refine ⟨_,rfl,?_⟩
           refine ⟨_,rfl,?_⟩
           refine ⟨_,rfl,?_⟩
           refine ⟨_,rfl,?_⟩
           refine ⟨_,rfl,?_⟩
           refine ⟨_,rfl,?_⟩
           refine ⟨_,rfl,?_⟩
           refine ⟨_,⟨j,j * 1,rfl,rfl,by rw [cellsO_len (by omega)]; omega,rfl⟩,?_⟩
           have hb : ovV x y i j = false := by
            rw [ovV_cc hx0 hy0,hv10,hv01]; simp
           refine ⟨_,_,_,cellsO_here x y i j,by simp,_,cellsO_put (by omega) hb,?_⟩
           exact ⟨_,hwm,roundR j (by show j ≤ y.length + 1; omega) (by show j < j + 1; omega) rfl ⟨wR,wR,wR,wR,wR,trivial⟩ ⟨hO1 rfl,hO1 rfl,trivial⟩⟩
         | true =>
           refine ⟨.p (.bool true),⟨_,_,_,cellsO_next (by omega) hv01,by simp,rfl⟩,?_⟩
           refine ⟨_,rfl,?_⟩
           refine ⟨_,rfl,?_⟩
           refine ⟨_,rfl,?_⟩
           refine ⟨_,rfl,?_⟩
           refine ⟨_,rfl,?_⟩
           refine ⟨_,rfl,?_⟩
           refine ⟨_,rfl,?_⟩
           refine ⟨_,rfl,?_⟩
           refine ⟨_,⟨j,j * 1,rfl,rfl,by rw [cellsO_len (by omega)]; omega,rfl⟩,?_⟩
           have hb : ovV x y i j = true := by
            rw [ovV_cc hx0 hy0,hv10,hv01]; simp
           refine ⟨_,_,_,cellsO_here x y i j,by simp,_,cellsO_put (by omega) hb,?_⟩
           exact ⟨_,hwm,roundR j (by show j ≤ y.length + 1; omega) (by show j < j + 1; omega) rfl ⟨wR,wR,wR,wR,wR,trivial⟩ ⟨hO1 rfl,hO1 rfl,trivial⟩⟩
       | true =>
         refine ⟨.p (.imp [.bool true]),⟨by omega,_,rowA_at (by omega) hv10,rfl,rfl⟩,?_⟩
         refine ⟨_,rfl,?_⟩
         refine ⟨_,rfl,?_⟩
         refine ⟨_,rfl,?_⟩
         refine ⟨_,rfl,?_⟩
         refine ⟨_,rfl,?_⟩
         refine ⟨_,rfl,?_⟩
         refine ⟨_,rfl,?_⟩
         refine ⟨_,rfl,?_⟩
         refine ⟨_,rfl,?_⟩
         refine ⟨_,⟨j,j * 1,rfl,rfl,by rw [cellsO_len (by omega)]; omega,rfl⟩,?_⟩
         have hb : ovV x y i j = true := by
          rw [ovV_cc hx0 hy0,hv10]; simp
         refine ⟨_,_,_,cellsO_here x y i j,by simp,_,cellsO_put (by omega) hb,?_⟩
         exact ⟨_,hwm,roundR j (by show j ≤ y.length + 1; omega) (by show j < j + 1; omega) rfl ⟨wR,wR,wR,wR,wR,trivial⟩ ⟨hO1 rfl,hO1 rfl,trivial⟩⟩
     | true =>
       refine ⟨_,rfl,?_⟩
       refine ⟨_,rfl,?_⟩
       refine ⟨_,⟨i,i * 1,rfl,rfl,by rw [rowsO_len hi1]; omega,rfl⟩,?_⟩
       refine ⟨.osl 43 4 1,⟨_,_,_,rowsO_here x y i,by simp,rfl⟩,?_⟩
       refine ⟨_,rfl,?_⟩
       refine ⟨_,rfl,?_⟩
       refine ⟨_,rfl,?_⟩
       refine ⟨_,rfl,?_⟩
       refine ⟨.p (.bool false),⟨fun t ht => by rw [ht]; exact congrArg (fun b => FV.p (AV.bool b)) hiE⟩,?_⟩
       refine ⟨_,rfl,?_⟩
       refine ⟨_,rfl,?_⟩
       refine ⟨_,rfl,?_⟩
       refine ⟨_,rfl,?_⟩
       refine ⟨_,rfl,?_⟩
       refine ⟨_,rfl,?_⟩
       refine ⟨.p (.bool true),⟨fun t ht => by rw [ht]; exact congrArg (fun b => FV.p (AV.bool b)) hiL⟩,?_⟩
       refine ⟨_,rfl,?_⟩
       refine ⟨_,rfl,?_⟩
       refine ⟨_,rfl,?_⟩
       refine ⟨.p (.imp [.bool true,.sl (encOnes ox)]),⟨by omega,_,hxi,rfl,rfl⟩,?_⟩
       refine ⟨_,rfl,?_⟩
       refine ⟨_,rfl,?_⟩
       refine ⟨_,rfl,?_⟩
       refine ⟨_,rfl,?_⟩
       refine ⟨_,rfl,?_⟩
       refine ⟨_,rfl,?_⟩
       refine ⟨_,⟨_,hwi,rfl⟩,?_⟩
       refine ⟨_,⟨(i + 1),(i + 1) * 1,rfl,rfl,by rw [rowsO_len hi1]; omega,rfl⟩,?_⟩
       refine ⟨.p (.sl (rowA x y (i + 1))),⟨_,_,_,rowsO_next (by omega),by simp,rfl⟩,?_⟩
       refine ⟨_,rfl,?_⟩
       cases hv10 : ovV x y (i + 1) j with
       | false =>
         refine ⟨.p (.imp [.bool false]),⟨by omega,_,rowA_at (by omega) hv10,rfl,rfl⟩,?_⟩
         refine ⟨_,rfl,?_⟩
         refine ⟨_,rfl,?_⟩
         refine ⟨_,rfl,?_⟩
         refine ⟨_,rfl,?_⟩
         refine ⟨_,rfl,?_⟩
         refine ⟨.p (.bool true),⟨fun t ht => by rw [ht]; exact congrArg (fun b => FV.p (AV.bool b)) hjL⟩,?_⟩
         refine ⟨_,rfl,?_⟩
         refine ⟨_,rfl,?_⟩
         refine ⟨_,rfl,?_⟩
         refine ⟨_,⟨i,i * 1,rfl,rfl,by rw [rowsO_len hi1]; omega,rfl⟩,?_⟩
         refine ⟨.osl 43 4 1,⟨_,_,_,rowsO_here x y i,by simp,rfl⟩,?_⟩
         refine ⟨_,rfl,?_⟩
         refine ⟨_,⟨_,hwj,rfl⟩,?_⟩
         refine ⟨_,⟨(j + 1),(j + 1) * 1,rfl,rfl,by rw [cellsO_len (by omega)]; omega,rfl⟩,?_⟩
         cases hv01 : ovV x y i (j + 1) with
         | false =>
           refine ⟨.p (.bool false),⟨_,_,_,cellsO_next (by omega) hv01,by simp,rfl⟩,?_⟩
           refine ⟨_,rfl,?_⟩
           refine ⟨_,rfl,?_⟩
           refine ⟨_,rfl,?_⟩
           refine ⟨_,rfl,?_⟩
           refine ⟨_,rfl,?_⟩
           refine ⟨_,rfl,?_⟩
           refine ⟨_,rfl,?_⟩
           refine ⟨_,rfl,?_⟩
           refine ⟨.p (.bool true),⟨fun t ht => by rw [ht]; exact congrArg (fun b => FV.p (AV.bool b)) hjL⟩,?_⟩
           refine ⟨_,rfl,?_⟩
           refine ⟨_,rfl,?_⟩
           refine ⟨_,rfl,?_⟩
           refine ⟨.p (.imp [.bool true,.sl (encOnes oy)]),⟨by omega,_,hyj,rfl,rfl⟩,?_⟩
           refine ⟨_,rfl,?_⟩
           refine ⟨_,rfl,?_⟩
           refine ⟨_,rfl,?_⟩
           refine ⟨_,rfl,?_⟩
           refine ⟨_,rfl,?_⟩
           refine ⟨_,rfl,?_⟩
           refine ⟨_,⟨i,i * 1,rfl,rfl,by rw [rowsO_len hi1]; omega,rfl⟩,?_⟩
           refine ⟨.osl 43 4 1,⟨_,_,_,rowsO_here x y i,by simp,rfl⟩,?_⟩
           refine ⟨_,rfl,?_⟩
           refine ⟨_,⟨_,hwj,rfl⟩,?_⟩
           refine ⟨_,⟨(j + 1),(j + 1) * 1,rfl,rfl,by rw [cellsO_len (by omega)]; omega,rfl⟩,?_⟩
           refine ⟨.p (.bool false),⟨_,_,_,cellsO_next (by omega) hv01,by simp,rfl⟩,?_⟩
           refine ⟨_,rfl,?_⟩
           refine ⟨_,rfl,?_⟩
           refine ⟨_,rfl,?_⟩
           refine ⟨_,rfl,?_⟩
           refine ⟨.p (.bool true),⟨fun t ht => by rw [ht]; exact congrArg (fun b => FV.p (AV.bool b)) hiL⟩,?_⟩
           refine ⟨_,rfl,?_⟩
           refine ⟨_,rfl,?_⟩
           refine ⟨_,rfl,?_⟩
           refine ⟨_,⟨_,hwi,rfl⟩,?_⟩
           refine ⟨_,⟨(i + 1),(i + 1) * 1,rfl,rfl,by rw [rowsO_len hi1]; omega,rfl⟩,?_⟩
           refine ⟨.p (.sl (rowA x y (i + 1))),⟨_,_,_,rowsO_next (by omega),by simp,rfl⟩,?_⟩
           refine ⟨_,rfl,?_⟩
           refine ⟨.p (.imp [.bool false]),⟨by omega,_,rowA_at (by omega) hv10,rfl,rfl⟩,?_⟩
           refine ⟨_,rfl,?_⟩
           refine ⟨_,rfl,?_⟩
           refine ⟨_,rfl,?_⟩
           refine ⟨_,rfl,?_⟩
           refine ⟨_,rfl,?_⟩
           refine ⟨_,rfl,?_⟩
           refine ⟨_,rfl,?_⟩
           refine ⟨_,rfl,?_⟩
           refine ⟨_,rfl,?_⟩
           refine ⟨.p (.bool true),⟨fun t ht => by rw [ht]; exact congrArg (fun b => FV.p (AV.bool b)) hiL⟩,?_⟩
           refine ⟨_,rfl,?_⟩
           refine ⟨_,rfl,?_⟩
           refine ⟨_,rfl,?_⟩
           refine ⟨_,rfl,?_⟩
           refine ⟨.p (.bool true),⟨fun t ht => by rw [ht]; exact congrArg (fun b => FV.p (AV.bool b)) hjL⟩,?_⟩
           refine ⟨_,rfl,?_⟩
           refine ⟨_,rfl,?_⟩
           refine ⟨_,rfl,?_⟩
           refine ⟨_,rfl,?_⟩
           refine ⟨.p (.imp [.bool true,.sl (encOnes ox)]),⟨by omega,_,hxi,rfl,rfl⟩,?_⟩
           refine ⟨_,rfl,?_⟩
           refine ⟨_,rfl,?_⟩
           refine ⟨.p (.bool false),⟨fun t ht => by rw [ht]; rfl⟩,?_⟩
           refine ⟨_,rfl,?_⟩
           refine ⟨_,rfl,?_⟩
           refine ⟨_,rfl,?_⟩
           refine ⟨_,rfl,?_⟩
           refine ⟨_,rfl,?_⟩
           refine ⟨_,rfl,?_⟩
           refine ⟨_,rfl,?_⟩
           refine ⟨_,rfl,?_⟩
           refine ⟨_,⟨j,j * 1,rfl,rfl,by rw [cellsO_len (by omega)]; omega,rfl⟩,?_⟩
           have hb : ovV x y i j = false := by
            rw [ovV_cc hx0 hy0,hv10,hv01]; simp
           refine ⟨_,_,_,cellsO_here x y i j,by simp,_,cellsO_put (by omega) hb,?_⟩
           exact ⟨_,hwm,roundR j (by show j ≤ y.length + 1; omega) (by show j < j + 1; omega) rfl ⟨wR,wR,wR,wR,wR,trivial⟩ ⟨hO1 rfl,hO1 rfl,trivial⟩⟩
         | true =>
           refine ⟨.p (.bool true),⟨_,_,_,cellsO_next (by omega) hv01,by simp,rfl⟩,?_⟩
           refine ⟨_,rfl,?_⟩
           refine ⟨_,rfl,?_⟩
           refine ⟨_,rfl,?_⟩
           refine ⟨_,rfl,?_⟩
           refine ⟨_,rfl,?_⟩
           refine ⟨_,rfl,?_⟩
           refine ⟨_,rfl,?_⟩
           refine ⟨_,rfl,?_⟩
           refine ⟨_,⟨j,j * 1,rfl,rfl,by rw [cellsO_len (by omega)]; omega,rfl⟩,?_⟩
           have hb : ovV x y i j = true := by
            rw [ovV_cc hx0 hy0,hv10,hv01]; simp
           refine ⟨_,_,_,cellsO_here x y i j,by simp,_,cellsO_put (by omega) hb,?_⟩
           exact ⟨_,hwm,roundR j (by show j ≤ y.length + 1; omega) (by show j < j + 1; omega) rfl ⟨wR,wR,wR,wR,wR,trivial⟩ ⟨hO1 rfl,hO1 rfl,trivial⟩⟩
       | true =>
         refine ⟨.p (.imp [.bool true]),⟨by omega,_,rowA_at (by omega) hv10,rfl,rfl⟩,?_⟩
         refine ⟨_,rfl,?_⟩
         refine ⟨_,rfl,?_⟩
         refine ⟨_,rfl,?_⟩
         refine ⟨_,rfl,?_⟩
         refine ⟨_,rfl,?_⟩
         refine ⟨_,rfl,?_⟩
         refine ⟨_,rfl,?_⟩
         refine ⟨_,rfl,?_⟩
         refine ⟨_,rfl,?_⟩
         refine ⟨_,⟨j,j * 1,rfl,rfl,by rw [cellsO_len (by omega)]; omega,rfl⟩,?_⟩
         have hb : ovV x y i j = true := by
          rw [ovV_cc hx0 hy0,hv10]; simp
         refine ⟨_,_,_,cellsO_here x y i j,by simp,_,cellsO_put (by omega) hb,?_⟩
         exact ⟨_,hwm,roundR j (by show j ≤ y.length + 1; omega) (by show j < j + 1; omega) rfl ⟨wR,wR,wR,wR,wR,trivial⟩ ⟨hO1 rfl,hO1 rfl,trivial⟩⟩
  case neg =>
   have hje : j = y.length := by omega
   have hjE : ((j : Int) == ((encComps y).length : Int)) = true := by rw [beq_iff_eq]; omega
   have hjL : decide ((j : Int) < ((encComps y).length : Int)) = false := decide_eq_false (by omega)
   cases dx with
   | false =>
     refine ⟨_,rfl,?_⟩
     refine ⟨_,rfl,?_⟩
     refine ⟨_,⟨i,i * 1,rfl,rfl,by rw [rowsO_len hi1]; omega,rfl⟩,?_⟩
     refine ⟨.osl 43 4 1,⟨_,_,_,rowsO_here x y i,by simp,rfl⟩,?_⟩
     refine ⟨_,rfl,?_⟩
     refine ⟨_,rfl,?_⟩
     refine ⟨_,rfl,?_⟩
     refine ⟨_,rfl,?_⟩
     refine ⟨.p (.bool false),⟨fun t ht => by rw [ht]; exact congrArg (fun b => FV.p (AV.bool b)) hiE⟩,?_⟩
     refine ⟨_,rfl,?_⟩
     refine ⟨_,rfl,?_⟩
     refine ⟨_,rfl,?_⟩
     refine ⟨_,rfl,?_⟩
     refine ⟨_,rfl,?_⟩
     refine ⟨_,rfl,?_⟩
     refine ⟨.p (.bool true),⟨fun t ht => by rw [ht]; exact congrArg (fun b => FV.p (AV.bool b)) hiL⟩,?_⟩
     refine ⟨_,rfl,?_⟩
     refine ⟨_,rfl,?_⟩
     refine ⟨_,rfl,?_⟩
     refine ⟨.p (.imp [.bool false,.sl (encOnes ox)]),⟨by omega,_,hxi,rfl,rfl⟩,?_⟩
     refine ⟨_,rfl,?_⟩
     refine ⟨_,rfl,?_⟩
     refine ⟨_,rfl,?_⟩
     refine ⟨_,rfl,?_⟩
     refine ⟨_,rfl,?_⟩
     refine ⟨_,rfl,?_⟩
     refine ⟨_,rfl,?_⟩
     refine ⟨_,rfl,?_⟩
     refine ⟨_,rfl,?_⟩
     refine ⟨_,rfl,?_⟩
     refine ⟨.p (.bool false),⟨fun t ht => by rw [ht]; exact congrArg (fun b => FV.p (AV.bool b)) hjL⟩,?_⟩
     refine ⟨_,rfl,?_⟩
     refine ⟨_,rfl,?_⟩
     refine ⟨_,rfl,?_⟩
     refine ⟨_,rfl,?_⟩
     refine ⟨_,rfl,?_⟩
     refine ⟨_,rfl,?_⟩
     refine ⟨_,rfl,?_⟩
     refine ⟨_,rfl,?_⟩
     refine ⟨_,rfl,?_⟩
     refine ⟨.p (.bool true),⟨fun t ht => by rw [ht]; exact congrArg (fun b => FV.p (AV.bool b)) hiL⟩,?_⟩
     refine ⟨_,rfl,?_⟩
     refine ⟨_,rfl,?_⟩
     refine ⟨_,rfl,?_⟩
     refine ⟨_,rfl,?_⟩
     refine ⟨.p (.bool false),⟨fun t ht => by rw [ht]; exact congrArg (fun b => FV.p (AV.bool b)) hjL⟩,?_⟩
     refine ⟨_,rfl,?_⟩
     refine ⟨_,rfl,?_⟩
     refine ⟨_,rfl,?_⟩
     refine ⟨_,rfl,?_⟩
     refine ⟨_,rfl,?_⟩
     refine ⟨_,rfl,?_⟩
     refine ⟨_,rfl,?_⟩
     refine ⟨_,rfl,?_⟩
     refine ⟨_,rfl,?_⟩
     refine ⟨_,rfl,?_⟩
     refine ⟨_,⟨j,j * 1,rfl,rfl,by rw [cellsO_len (by omega)]; omega,rfl⟩,?_⟩
     have hb : ovV x y i j = false := by
      rw [ovV_cn' hje hx0]; simp
     refine ⟨_,_,_,cellsO_here x y i j,by simp,_,cellsO_put (by omega) hb,?_⟩
     exact ⟨_,hwm,roundR j (by show j ≤ y.length + 1; omega) (by show j < j + 1; omega) rfl ⟨wR,wR,wR,wR,wR,trivial⟩ ⟨hO1 rfl,hO1 rfl,trivial⟩⟩
   | true =>
     refine ⟨_,rfl,?_⟩
     refine ⟨_,rfl,?_⟩
     refine ⟨_,⟨i,i * 1,rfl,rfl,by rw [rowsO_len hi1]; omega,rfl⟩,?_⟩
     refine ⟨.osl 43 4 1,⟨_,_,_,rowsO_here x y i,by simp,rfl⟩,?_⟩
     refine ⟨_,rfl,?_⟩
     refine ⟨_,rfl,?_⟩
     refine ⟨_,rfl,?_⟩
     refine ⟨_,rfl,?_⟩
     refine ⟨.p (.bool false),⟨fun t ht => by rw [ht]; exact congrArg (fun b => FV.p (AV.bool b)) hiE⟩,?_⟩
     refine ⟨_,rfl,?_⟩
     refine ⟨_,rfl,?_⟩
     refine ⟨_,rfl,?_⟩
     refine ⟨_,rfl,?_⟩
     refine ⟨_,rfl,?_⟩
     refine ⟨_,rfl,?_⟩
     refine ⟨.p (.bool true),⟨fun t ht => by rw [ht]; exact congrArg (fun b => FV.p (AV.bool b)) hiL⟩,?_⟩
     refine ⟨_,rfl,?_⟩
     refine ⟨_,rfl,?_⟩
     refine ⟨_,rfl,?_⟩
     refine ⟨.p (.imp [.bool true,.sl (encOnes ox)]),⟨by omega,_,hxi,rfl,rfl⟩,?_⟩
     refine ⟨_,rfl,?_⟩
     refine ⟨_,rfl,?_⟩
     refine ⟨_,rfl,?_⟩
     refine ⟨_,rfl,?_⟩
     refine ⟨_,rfl,?_⟩
     refine ⟨_,rfl,?_⟩
     refine ⟨_,⟨_,hwi,rfl⟩,?_⟩
     refine ⟨_,⟨(i + 1),(i + 1) * 1,rfl,rfl,by rw [rowsO_len hi1]; omega,rfl⟩,?_⟩
     refine ⟨.p (.sl (rowA x y (i + 1))),⟨_,_,_,rowsO_next (by omega),by simp,rfl⟩,?_⟩
     refine ⟨_,rfl,?_⟩
     cases hv10 : ovV x y (i + 1) j with
     | false =>
       refine ⟨.p (.imp [.bool false]),⟨by omega,_,rowA_at (by omega) hv10,rfl,rfl⟩,?_⟩
       refine ⟨_,rfl,?_⟩
       refine ⟨_,rfl,?_⟩
       refine ⟨_,rfl,?_⟩
       refine ⟨_,rfl,?_⟩
       refine ⟨_,rfl,?_⟩
       refine ⟨.p (.bool false),⟨fun t ht => by rw [ht]; exact congrArg (fun b => FV.p (AV.bool b)) hjL⟩,?_⟩
       refine ⟨_,rfl,?_⟩
       refine ⟨_,rfl,?_⟩
       refine ⟨_,rfl,?_⟩
       refine ⟨_,rfl,?_⟩
       refine ⟨_,rfl,?_⟩
       refine ⟨_,rfl,?_⟩
       refine ⟨_,rfl,?_⟩
       refine ⟨_,rfl,?_⟩
       refine ⟨_,rfl,?_⟩
       refine ⟨.p (.bool false),⟨fun t ht => by rw [ht]; exact congrArg (fun b => FV.p (AV.bool b)) hjL⟩,?_⟩
       refine ⟨_,rfl,?_⟩
       refine ⟨_,rfl,?_⟩
       refine ⟨_,rfl,?_⟩
       refine ⟨_,rfl,?_⟩
       refine ⟨_,rfl,?_⟩
       refine ⟨_,rfl,?_⟩
       refine ⟨_,rfl,?_⟩
       refine ⟨_,rfl,?_⟩
       refine ⟨_,rfl,?_⟩
       refine ⟨.p (.bool true),⟨fun t ht => by rw [ht]; exact congrArg (fun b => FV.p (AV.bool b)) hiL⟩,?_⟩
       refine ⟨_,rfl,?_⟩
       refine ⟨_,rfl,?_⟩
       refine ⟨_,rfl,?_⟩
       refine ⟨_,rfl,?_⟩
       refine ⟨.p (.bool false),⟨fun t ht => by rw [ht]; exact congrArg (fun b => FV.p (AV.bool b)) hjL⟩,?_⟩
       refine ⟨_,rfl,?_⟩
       refine ⟨_,rfl,?_⟩
       refine ⟨_,rfl,?_⟩
       refine ⟨_,rfl,?_⟩
       refine ⟨_,rfl,?_⟩
       refine ⟨_,rfl,?_⟩
       refine ⟨_,rfl,?_⟩
       refine ⟨_,rfl,?_⟩
       refine ⟨_,rfl,?_⟩
       refine ⟨_,rfl,?_⟩
       refine ⟨_,⟨j,j * 1,rfl,rfl,by rw [cellsO_len (by omega)]; omega,rfl⟩,?_⟩
       have hb : ovV x y i j = false := by
        rw [ovV_cn' hje hx0,hv10]; simp
       refine ⟨_,_,_,cellsO_here x y i j,by simp,_,cellsO_put (by omega) hb,?_⟩
       exact ⟨_,hwm,roundR j (by show j ≤ y.length + 1; omega) (by show j < j + 1; omega) rfl ⟨wR,wR,wR,wR,wR,trivial⟩ ⟨hO1 rfl,hO1 rfl,trivial⟩⟩
     | true =>
       refine ⟨.p (.imp [.bool true]),⟨by omega,_,rowA_at (by omega) hv10,rfl,rfl⟩,?_⟩
       refine ⟨_,rfl,?_⟩
       refine ⟨_,rfl,?_⟩
       refine ⟨_,rfl,?_⟩
       refine ⟨_,rfl,?_⟩
       refine ⟨_,rfl,?_⟩
       refine ⟨_,rfl,?_⟩
       refine ⟨_,rfl,?_⟩
       refine ⟨_,rfl,?_⟩
       refine ⟨_,rfl,?_⟩
       refine ⟨_,⟨j,j * 1,rfl,rfl,by rw [cellsO_len (by omega)]; omega,rfl⟩,?_⟩
       have hb : ovV x y i j = true := by
        rw [ovV_cn' hje hx0,hv10]; simp
       refine ⟨_,_,_,cellsO_here x y i j,by simp,_,cellsO_put (by omega) hb,?_⟩
       exact ⟨_,hwm,roundR j (by show j ≤ y.length + 1; omega) (by show j < j + 1; omega) rfl ⟨wR,wR,wR,wR,wR,trivial⟩ ⟨hO1 rfl,hO1 rfl,trivial⟩⟩
 case neg =>
  have hie : i = x.length := by omega
  have hiE : ((i : Int) == ((encComps x).length : Int)) = true := by rw [beq_iff_eq]; omega
  have hiL : decide ((i : Int) < ((encComps x).length : Int)) = false := decide_eq_false (by omega)
  by_cases hjc : j < y.length
  case pos =>
   have hjE : ((j : Int) == ((encComps y).length : Int)) = false := by rw [beq_eq_false_iff_ne]; omega
   have hjL : decide ((j : Int) < ((encComps y).length : Int)) = true := decide_eq_true (by omega)
   obtain ⟨⟨dy,oy⟩,hy0⟩ : ∃ c,y[j]? = some c := ⟨_,List.getElem?_eq_getElem hjc⟩
   have hym := List.mem_of_getElem? hy0
   have hyj : (encComps y)[((j : Nat) : Int).toNat]? = some [.bool dy,.sl (encOnes oy)] := by simp [encComps,hy0,Comp.enc]
   cases dy with
   | false =>
     refine ⟨_,rfl,?_⟩
     refine ⟨_,rfl,?_⟩
     refine ⟨_,⟨i,i * 1,rfl,rfl,by rw [rowsO_len hi1]; omega,rfl⟩,?_⟩
     refine ⟨.osl 43 4 1,⟨_,_,_,rowsO_here x y i,by simp,rfl⟩,?_⟩
     refine ⟨_,rfl,?_⟩
     refine ⟨_,rfl,?_⟩
     refine ⟨_,rfl,?_⟩
     refine ⟨_,rfl,?_⟩
     refine ⟨.p (.bool true),⟨fun t ht => by rw [ht]; exact congrArg (fun b => FV.p (AV.bool b)) hiE⟩,?_⟩
     refine ⟨_,rfl,?_⟩
     refine ⟨_,rfl,?_⟩
     refine ⟨_,rfl,?_⟩
     refine ⟨_,rfl,?_⟩
     refine ⟨.p (.bool false),⟨fun t ht => by rw [ht]; exact congrArg (fun b => FV.p (AV.bool b)) hjE⟩,?_⟩
     refine ⟨_,rfl,?_⟩
     refine ⟨_,rfl,?_⟩
     refine ⟨_,rfl,?_⟩
     refine ⟨_,rfl,?_⟩
     refine ⟨_,rfl,?_⟩
     refine ⟨.p (.bool false),⟨fun t ht => by rw [ht]; exact congrArg (fun b => FV.p (AV.bool b)) hiL⟩,?_⟩
     refine ⟨_,rfl,?_⟩
     refine ⟨_,rfl,?_⟩
     refine ⟨_,rfl,?_⟩
     refine ⟨_,rfl,?_⟩
     refine ⟨_,rfl,?_⟩
     refine ⟨_,rfl,?_⟩
     refine ⟨_,rfl,?_⟩
     refine ⟨_,rfl,?_⟩
     refine ⟨_,rfl,?_⟩
     refine ⟨.p (.bool true),⟨fun t ht => by rw [ht]; exact congrArg (fun b => FV.p (AV.bool b)) hjL⟩,?_⟩
     refine ⟨_,rfl,?_⟩
     refine ⟨_,rfl,?_⟩
     refine ⟨_,rfl,?_⟩
     refine ⟨.p (.imp [.bool false,.sl (encOnes oy)]),⟨by omega,_,hyj,rfl,rfl⟩,?_⟩
     refine ⟨_,rfl,?_⟩
     refine ⟨_,rfl,?_⟩
     refine ⟨_,rfl,?_⟩
     refine ⟨_,rfl,?_⟩
     refine ⟨_,rfl,?_⟩
     refine ⟨_,rfl,?_⟩
     refine ⟨_,rfl,?_⟩
     refine ⟨_,rfl,?_⟩
     refine ⟨_,rfl,?_⟩
     refine ⟨_,rfl,?_⟩
     refine ⟨.p (.bool false),⟨fun t ht => by rw [ht]; exact congrArg (fun b => FV.p (AV.bool b)) hiL⟩,?_⟩
     refine ⟨_,rfl,?_⟩
     refine ⟨_,rfl,?_⟩
     refine ⟨_,rfl,?_⟩
     refine ⟨_,rfl,?_⟩
     refine ⟨_,rfl,?_⟩
     refine ⟨_,rfl,?_⟩
     refine ⟨_,rfl,?_⟩
     refine ⟨_,rfl,?_⟩
     refine ⟨_,rfl,?_⟩
     refine ⟨_,rfl,?_⟩
     refine ⟨_,rfl,?_⟩
     refine ⟨_,⟨j,j * 1,rfl,rfl,by rw [cellsO_len (by omega)]; omega,rfl⟩,?_⟩
     have hb : ovV x y i j = false := by
      rw [ovV_nc' hie hy0]; simp
     refine ⟨_,_,_,cellsO_here x y i j,by simp,_,cellsO_put (by omega) hb,?_⟩
     exact ⟨_,hwm,roundR j (by show j ≤ y.length + 1; omega) (by show j < j + 1; omega) rfl ⟨wR,wR,wR,wR,wR,trivial⟩ ⟨hO1 rfl,hO1 rfl,trivial⟩⟩
   | true =>
     refine ⟨_,rfl,?_⟩
     refine ⟨_,rfl,?_⟩
     refine ⟨_,⟨i,i * 1,rfl,rfl,by rw [rowsO_len hi1]; omega,rfl⟩,?_⟩
     refine ⟨.osl 43 4 1,⟨_,_,_,rowsO_here x y i,by simp,rfl⟩,?_⟩
     refine ⟨_,rfl,?_⟩
     refine ⟨_,rfl,?_⟩
     refine ⟨_,rfl,?_⟩
     refine ⟨_,rfl,?_⟩
     refine ⟨.p (.bool true),⟨fun t ht => by rw [ht]; exact congrArg (fun b => FV.p (AV.bool b)) hiE⟩,?_⟩
     refine ⟨_,rfl,?_⟩
     refine ⟨_,rfl,?_⟩
     refine ⟨_,rfl,?_⟩
     refine ⟨_,rfl,?_⟩
     refine ⟨.p (.bool false),⟨fun t ht => by rw [ht]; exact congrArg (fun b => FV.p (AV.bool b)) hjE⟩,?_⟩
     refine ⟨_,rfl,?_⟩
     refine ⟨_,rfl,?_⟩
     refine ⟨_,rfl,?_⟩
     refine ⟨_,rfl,?_⟩
     refine ⟨_,rfl,?_⟩
     refine ⟨.p (.bool false),⟨fun t ht => by rw [ht]; exact congrArg (fun b => FV.p (AV.bool b)) hiL⟩,?_⟩
     refine ⟨_,rfl,?_⟩
     refine ⟨_,rfl,?_⟩
     refine ⟨_,rfl,?_⟩
     refine ⟨_,rfl,?_⟩
     refine ⟨_,rfl,?_⟩
     refine ⟨_,rfl,?_⟩
     refine ⟨_,rfl,?_⟩
     refine ⟨_,rfl,?_⟩
     refine ⟨_,rfl,?_⟩
     refine ⟨.p (.bool true),⟨fun t ht => by rw [ht]; exact congrArg (fun b => FV.p (AV.bool b)) hjL⟩,?_⟩
     refine ⟨_,rfl,?_⟩
     refine ⟨_,rfl,?_⟩
     refine ⟨_,rfl,?_⟩
     refine ⟨.p (.imp [.bool true,.sl (encOnes oy)]),⟨by omega,_,hyj,rfl,rfl⟩,?_⟩
     refine ⟨_,rfl,?_⟩
     refine ⟨_,rfl,?_⟩
     refine ⟨_,rfl,?_⟩
     refine ⟨_,rfl,?_⟩
     refine ⟨_,rfl,?_⟩
     refine ⟨_,rfl,?_⟩
     refine ⟨_,⟨i,i * 1,rfl,rfl,by rw [rowsO_len hi1]; omega,rfl⟩,?_⟩
     refine ⟨.osl 43 4 1,⟨_,_,_,rowsO_here x y i,by simp,rfl⟩,?_⟩
     refine ⟨_,rfl,?_⟩
     refine ⟨_,⟨_,hwj,rfl⟩,?_⟩
     refine ⟨_,⟨(j + 1),(j + 1) * 1,rfl,rfl,by rw [cellsO_len (by omega)]; omega,rfl⟩,?_⟩
     cases hv01 : ovV x y i (j + 1) with
     | false =>
       refine ⟨.p (.bool false),⟨_,_,_,cellsO_next (by omega) hv01,by simp,rfl⟩,?_⟩
       refine ⟨_,rfl,?_⟩
       refine ⟨_,rfl,?_⟩
       refine ⟨_,rfl,?_⟩
       refine ⟨_,rfl,?_⟩
       refine ⟨.p (.bool false),⟨fun t ht => by rw [ht]; exact congrArg (fun b => FV.p (AV.bool b)) hiL⟩,?_⟩
       refine ⟨_,rfl,?_⟩
       refine ⟨_,rfl,?_⟩
       refine ⟨_,rfl,?_⟩
       refine ⟨_,rfl,?_⟩
       refine ⟨_,rfl,?_⟩
       refine ⟨_,rfl,?_⟩
       refine ⟨_,rfl,?_⟩
       refine ⟨_,rfl,?_⟩
       refine ⟨_,rfl,?_⟩
       refine ⟨.p (.bool false),⟨fun t ht => by rw [ht]; exact congrArg (fun b => FV.p (AV.bool b)) hiL⟩,?_⟩
       refine ⟨_,rfl,?_⟩
       refine ⟨_,rfl,?_⟩
       refine ⟨_,rfl,?_⟩
       refine ⟨_,rfl,?_⟩
       refine ⟨_,rfl,?_⟩
       refine ⟨_,rfl,?_⟩
       refine ⟨_,rfl,?_⟩
       refine ⟨_,rfl,?_⟩
       refine ⟨_,rfl,?_⟩
       refine ⟨_,rfl,?_⟩
       refine ⟨_,rfl,?_⟩
       refine ⟨_,⟨j,j * 1,rfl,rfl,by rw [cellsO_len (by omega)]; omega,rfl⟩,?_⟩
       have hb : ovV x y i j = false := by
        rw [ovV_nc' hie hy0,hv01]; simp
       refine ⟨_,_,_,cellsO_here x y i j,by simp,_,cellsO_put (by omega) hb,?_⟩
       exact ⟨_,hwm,roundR j (by show j ≤ y.length + 1; omega) (by show j < j + 1; omega) rfl ⟨wR,wR,wR,wR,wR,trivial⟩ ⟨hO1 rfl,hO1 rfl,trivial⟩⟩
     | true =>
       refine ⟨.p (.bool true),⟨_,_,_,cellsO_next (by omega) hv01,by simp,rfl⟩,?_⟩
       refine ⟨_,rfl,?_⟩
       refine ⟨_,rfl,?_⟩
       refine ⟨_,rfl,?_⟩
       refine ⟨_,rfl,?_⟩
       refine ⟨_,rfl,?_⟩
       refine ⟨_,rfl,?_⟩
       refine ⟨_,⟨j,j * 1,rfl,rfl,by rw [cellsO_len (by omega)]; omega,rfl⟩,?_⟩
       have hb : ovV x y i j = true := by
        rw [ovV_nc' hie hy0,hv01]; simp
       refine ⟨_,_,_,cellsO_here x y i j,by simp,_,cellsO_put (by omega) hb,?_⟩
       exact ⟨_,hwm,roundR j (by show j ≤ y.length + 1; omega) (by show j < j + 1; omega) rfl ⟨wR,wR,wR,wR,wR,trivial⟩ ⟨hO1 rfl,hO1 rfl,trivial⟩⟩
  case neg =>
   have hje : j = y.length := by omega
   have hjE : ((j : Int) == ((encComps y).length : Int)) = true := by rw [beq_iff_eq]; omega
   have hjL : decide ((j : Int) < ((encComps y).length : Int)) = false := decide_eq_false (by omega)
   refine ⟨_,rfl,?_⟩
   refine ⟨_,rfl,?_⟩
   refine ⟨_,⟨i,i * 1,rfl,rfl,by rw [rowsO_len hi1]; omega,rfl⟩,?_⟩
   refine ⟨.osl 43 4 1,⟨_,_,_,rowsO_here x y i,by simp,rfl⟩,?_⟩
   refine ⟨_,rfl,?_⟩
   refine ⟨_,rfl,?_⟩
   refine ⟨_,rfl,?_⟩
   refine ⟨_,rfl,?_⟩
   refine ⟨.p (.bool true),⟨fun t ht => by rw [ht]; exact congrArg (fun b => FV.p (AV.bool b)) hiE⟩,?_⟩
   refine ⟨_,rfl,?_⟩
   refine ⟨_,rfl,?_⟩
   refine ⟨_,rfl,?_⟩
   refine ⟨_,rfl,?_⟩
   refine ⟨.p (.bool true),⟨fun t ht => by rw [ht]; exact congrArg (fun b => FV.p (AV.bool b)) hjE⟩,?_⟩
   refine ⟨_,rfl,?_⟩
   refine ⟨_,rfl,?_⟩
   refine ⟨_,rfl,?_⟩
   refine ⟨_,rfl,?_⟩
   refine ⟨_,rfl,?_⟩
   refine ⟨_,rfl,?_⟩
   refine ⟨_,rfl,?_⟩
   refine ⟨_,⟨j,j * 1,rfl,rfl,by rw [cellsO_len (by omega)]; omega,rfl⟩,?_⟩
   have hb : ovV x y i j = true := by
    exact ovV_nn' hie hje
   refine ⟨_,_,_,cellsO_here x y i j,by simp,_,cellsO_put (by omega) hb,?_⟩
   exact ⟨_,hwm,roundR j (by show j ≤ y.length + 1; omega) (by show j < j + 1; omega) rfl ⟨wR,wR,wR,wR,wR,trivial⟩ ⟨hO1 rfl,hO1 rfl,trivial⟩⟩
end Qv

