/- Own texts, put together. -/
import Derived.Test.YtclkdldkebjgpaaA2
import Derived.LaidEqlPtr
import Derived.Test.YtclkdldkebjgpaaA1
section
/- Ends of links: what they are, and their cells. -/
namespace Go.Gx
open Go

@[ext] structure Inf where
  prio : Int
  sys : Mac
  key : Int
  pprio : Int
  port : Int
  state : Int
  deriving DecidableEq, Inhabited

def Inf.cells (x : Inf) : List Value := [i64 x.prio, u8 x.sys.b0, u8 x.sys.b1, u8 x.sys.b2, u8 x.sys.b3, u8 x.sys.b4, u8 x.sys.b5, i64 x.key, i64 x.pprio, i64 x.port, i64 x.state]
theorem Inf.len (x : Inf) : x.cells.length = 11 := id rfl
theorem Inf.one (x : Inf) : x.cells.all S.oneCell = true := id rfl
theorem Inf.dw (x : Inf) : (x.cells.drop 0).take 11 = x.cells := id rfl
theorem Inf.sw (x y : Inf) : splice x.cells 0 y.cells = y.cells := id rfl
theorem Inf.g_prio (x : Inf) : x.cells[0]? = some (i64 x.prio) := id rfl
theorem Inf.s_prio (x : Inf) (v : Int) : splice x.cells 0 [i64 v] = ({ x with prio := v } : Inf).cells := id rfl
theorem Inf.d_sys (x : Inf) : (x.cells.drop 1).take 6 = x.sys.cells := id rfl
theorem Inf.s_sys (x : Inf) (v : Mac) : splice x.cells 1 v.cells = ({ x with sys := v } : Inf).cells := id rfl
theorem Inf.g_key (x : Inf) : x.cells[7]? = some (i64 x.key) := id rfl
theorem Inf.s_key (x : Inf) (v : Int) : splice x.cells 7 [i64 v] = ({ x with key := v } : Inf).cells := id rfl
theorem Inf.g_pprio (x : Inf) : x.cells[8]? = some (i64 x.pprio) := id rfl
theorem Inf.s_pprio (x : Inf) (v : Int) : splice x.cells 8 [i64 v] = ({ x with pprio := v } : Inf).cells := id rfl
theorem Inf.g_port (x : Inf) : x.cells[9]? = some (i64 x.port) := id rfl
theorem Inf.s_port (x : Inf) (v : Int) : splice x.cells 9 [i64 v] = ({ x with port := v } : Inf).cells := id rfl
theorem Inf.g_state (x : Inf) : x.cells[10]? = some (i64 x.state) := id rfl
theorem Inf.s_state (x : Inf) (v : Int) : splice x.cells 10 [i64 v] = ({ x with state := v } : Inf).cells := id rfl

@[ext] structure Lcp where
  actor : Inf
  partner : Inf
  delay : Int
  deriving DecidableEq, Inhabited

def Lcp.cells (x : Lcp) : List Value := [i64 x.actor.prio, u8 x.actor.sys.b0, u8 x.actor.sys.b1, u8 x.actor.sys.b2, u8 x.actor.sys.b3, u8 x.actor.sys.b4, u8 x.actor.sys.b5, i64 x.actor.key, i64 x.actor.pprio, i64 x.actor.port, i64 x.actor.state, i64 x.partner.prio, u8 x.partner.sys.b0, u8 x.partner.sys.b1, u8 x.partner.sys.b2, u8 x.partner.sys.b3, u8 x.partner.sys.b4, u8 x.partner.sys.b5, i64 x.partner.key, i64 x.partner.pprio, i64 x.partner.port, i64 x.partner.state, i64 x.delay]
theorem Lcp.len (x : Lcp) : x.cells.length = 23 := id rfl
theorem Lcp.one (x : Lcp) : x.cells.all S.oneCell = true := id rfl
theorem Lcp.dw (x : Lcp) : (x.cells.drop 0).take 23 = x.cells := id rfl
theorem Lcp.sw (x y : Lcp) : splice x.cells 0 y.cells = y.cells := id rfl
theorem Lcp.d_actor (x : Lcp) : (x.cells.drop 0).take 11 = x.actor.cells := id rfl
theorem Lcp.s_actor (x : Lcp) (v : Inf) : splice x.cells 0 v.cells = ({ x with actor := v } : Lcp).cells := id rfl
theorem Lcp.g_actor_prio (x : Lcp) : x.cells[0]? = some (i64 x.actor.prio) := id rfl
theorem Lcp.s_actor_prio (x : Lcp) (v : Int) : splice x.cells 0 [i64 v] = ({ x with actor := { x.actor with prio := v } } : Lcp).cells := id rfl
theorem Lcp.d_actor_sys (x : Lcp) : (x.cells.drop 1).take 6 = x.actor.sys.cells := id rfl
theorem Lcp.s_actor_sys (x : Lcp) (v : Mac) : splice x.cells 1 v.cells = ({ x with actor := { x.actor with sys := v } } : Lcp).cells := id rfl
theorem Lcp.g_actor_key (x : Lcp) : x.cells[7]? = some (i64 x.actor.key) := id rfl
theorem Lcp.s_actor_key (x : Lcp) (v : Int) : splice x.cells 7 [i64 v] = ({ x with actor := { x.actor with key := v } } : Lcp).cells := id rfl
theorem Lcp.g_actor_pprio (x : Lcp) : x.cells[8]? = some (i64 x.actor.pprio) := id rfl
theorem Lcp.s_actor_pprio (x : Lcp) (v : Int) : splice x.cells 8 [i64 v] = ({ x with actor := { x.actor with pprio := v } } : Lcp).cells := id rfl
theorem Lcp.g_actor_port (x : Lcp) : x.cells[9]? = some (i64 x.actor.port) := id rfl
theorem Lcp.s_actor_port (x : Lcp) (v : Int) : splice x.cells 9 [i64 v] = ({ x with actor := { x.actor with port := v } } : Lcp).cells := id rfl
theorem Lcp.g_actor_state (x : Lcp) : x.cells[10]? = some (i64 x.actor.state) := id rfl
theorem Lcp.s_actor_state (x : Lcp) (v : Int) : splice x.cells 10 [i64 v] = ({ x with actor := { x.actor with state := v } } : Lcp).cells := id rfl
theorem Lcp.d_partner (x : Lcp) : (x.cells.drop 11).take 11 = x.partner.cells := id rfl
theorem Lcp.s_partner (x : Lcp) (v : Inf) : splice x.cells 11 v.cells = ({ x with partner := v } : Lcp).cells := id rfl
theorem Lcp.g_partner_prio (x : Lcp) : x.cells[11]? = some (i64 x.partner.prio) := id rfl
theorem Lcp.s_partner_prio (x : Lcp) (v : Int) : splice x.cells 11 [i64 v] = ({ x with partner := { x.partner with prio := v } } : Lcp).cells := id rfl
theorem Lcp.d_partner_sys (x : Lcp) : (x.cells.drop 12).take 6 = x.partner.sys.cells := id rfl
theorem Lcp.s_partner_sys (x : Lcp) (v : Mac) : splice x.cells 12 v.cells = ({ x with partner := { x.partner with sys := v } } : Lcp).cells := id rfl
theorem Lcp.g_partner_key (x : Lcp) : x.cells[18]? = some (i64 x.partner.key) := id rfl
theorem Lcp.s_partner_key (x : Lcp) (v : Int) : splice x.cells 18 [i64 v] = ({ x with partner := { x.partner with key := v } } : Lcp).cells := id rfl
theorem Lcp.g_partner_pprio (x : Lcp) : x.cells[19]? = some (i64 x.partner.pprio) := id rfl
theorem Lcp.s_partner_pprio (x : Lcp) (v : Int) : splice x.cells 19 [i64 v] = ({ x with partner := { x.partner with pprio := v } } : Lcp).cells := id rfl
theorem Lcp.g_partner_port (x : Lcp) : x.cells[20]? = some (i64 x.partner.port) := id rfl
theorem Lcp.s_partner_port (x : Lcp) (v : Int) : splice x.cells 20 [i64 v] = ({ x with partner := { x.partner with port := v } } : Lcp).cells := id rfl
theorem Lcp.g_partner_state (x : Lcp) : x.cells[21]? = some (i64 x.partner.state) := id rfl
theorem Lcp.s_partner_state (x : Lcp) (v : Int) : splice x.cells 21 [i64 v] = ({ x with partner := { x.partner with state := v } } : Lcp).cells := id rfl
theorem Lcp.g_delay (x : Lcp) : x.cells[22]? = some (i64 x.delay) := id rfl
theorem Lcp.s_delay (x : Lcp) (v : Int) : splice x.cells 22 [i64 v] = ({ x with delay := v } : Lcp).cells := id rfl

@[ext] structure Tld where
  port : Int
  l : Lcp
  deriving DecidableEq, Inhabited

def Tld.cells (x : Tld) : List Value := [i64 x.port, i64 x.l.actor.prio, u8 x.l.actor.sys.b0, u8 x.l.actor.sys.b1, u8 x.l.actor.sys.b2, u8 x.l.actor.sys.b3, u8 x.l.actor.sys.b4, u8 x.l.actor.sys.b5, i64 x.l.actor.key, i64 x.l.actor.pprio, i64 x.l.actor.port, i64 x.l.actor.state, i64 x.l.partner.prio, u8 x.l.partner.sys.b0, u8 x.l.partner.sys.b1, u8 x.l.partner.sys.b2, u8 x.l.partner.sys.b3, u8 x.l.partner.sys.b4, u8 x.l.partner.sys.b5, i64 x.l.partner.key, i64 x.l.partner.pprio, i64 x.l.partner.port, i64 x.l.partner.state, i64 x.l.delay]
theorem Tld.len (x : Tld) : x.cells.length = 24 := id rfl
theorem Tld.one (x : Tld) : x.cells.all S.oneCell = true := id rfl
theorem Tld.dw (x : Tld) : (x.cells.drop 0).take 24 = x.cells := id rfl
theorem Tld.sw (x y : Tld) : splice x.cells 0 y.cells = y.cells := id rfl
theorem Tld.g_port (x : Tld) : x.cells[0]? = some (i64 x.port) := id rfl
theorem Tld.s_port (x : Tld) (v : Int) : splice x.cells 0 [i64 v] = ({ x with port := v } : Tld).cells := id rfl
theorem Tld.d_l (x : Tld) : (x.cells.drop 1).take 23 = x.l.cells := id rfl
theorem Tld.s_l (x : Tld) (v : Lcp) : splice x.cells 1 v.cells = ({ x with l := v } : Tld).cells := id rfl
theorem Tld.d_l_actor (x : Tld) : (x.cells.drop 1).take 11 = x.l.actor.cells := id rfl
theorem Tld.s_l_actor (x : Tld) (v : Inf) : splice x.cells 1 v.cells = ({ x with l := { x.l with actor := v } } : Tld).cells := id rfl
theorem Tld.g_l_actor_prio (x : Tld) : x.cells[1]? = some (i64 x.l.actor.prio) := id rfl
theorem Tld.s_l_actor_prio (x : Tld) (v : Int) : splice x.cells 1 [i64 v] = ({ x with l := { x.l with actor := { x.l.actor with prio := v } } } : Tld).cells := id rfl
theorem Tld.d_l_actor_sys (x : Tld) : (x.cells.drop 2).take 6 = x.l.actor.sys.cells := id rfl
theorem Tld.s_l_actor_sys (x : Tld) (v : Mac) : splice x.cells 2 v.cells = ({ x with l := { x.l with actor := { x.l.actor with sys := v } } } : Tld).cells := id rfl
theorem Tld.g_l_actor_key (x : Tld) : x.cells[8]? = some (i64 x.l.actor.key) := id rfl
theorem Tld.s_l_actor_key (x : Tld) (v : Int) : splice x.cells 8 [i64 v] = ({ x with l := { x.l with actor := { x.l.actor with key := v } } } : Tld).cells := id rfl
theorem Tld.g_l_actor_pprio (x : Tld) : x.cells[9]? = some (i64 x.l.actor.pprio) := id rfl
theorem Tld.s_l_actor_pprio (x : Tld) (v : Int) : splice x.cells 9 [i64 v] = ({ x with l := { x.l with actor := { x.l.actor with pprio := v } } } : Tld).cells := id rfl
theorem Tld.g_l_actor_port (x : Tld) : x.cells[10]? = some (i64 x.l.actor.port) := id rfl
theorem Tld.s_l_actor_port (x : Tld) (v : Int) : splice x.cells 10 [i64 v] = ({ x with l := { x.l with actor := { x.l.actor with port := v } } } : Tld).cells := id rfl
theorem Tld.g_l_actor_state (x : Tld) : x.cells[11]? = some (i64 x.l.actor.state) := id rfl
theorem Tld.s_l_actor_state (x : Tld) (v : Int) : splice x.cells 11 [i64 v] = ({ x with l := { x.l with actor := { x.l.actor with state := v } } } : Tld).cells := id rfl
theorem Tld.d_l_partner (x : Tld) : (x.cells.drop 12).take 11 = x.l.partner.cells := id rfl
theorem Tld.s_l_partner (x : Tld) (v : Inf) : splice x.cells 12 v.cells = ({ x with l := { x.l with partner := v } } : Tld).cells := id rfl
theorem Tld.g_l_partner_prio (x : Tld) : x.cells[12]? = some (i64 x.l.partner.prio) := id rfl
theorem Tld.s_l_partner_prio (x : Tld) (v : Int) : splice x.cells 12 [i64 v] = ({ x with l := { x.l with partner := { x.l.partner with prio := v } } } : Tld).cells := id rfl
theorem Tld.d_l_partner_sys (x : Tld) : (x.cells.drop 13).take 6 = x.l.partner.sys.cells := id rfl
theorem Tld.s_l_partner_sys (x : Tld) (v : Mac) : splice x.cells 13 v.cells = ({ x with l := { x.l with partner := { x.l.partner with sys := v } } } : Tld).cells := id rfl
theorem Tld.g_l_partner_key (x : Tld) : x.cells[19]? = some (i64 x.l.partner.key) := id rfl
theorem Tld.s_l_partner_key (x : Tld) (v : Int) : splice x.cells 19 [i64 v] = ({ x with l := { x.l with partner := { x.l.partner with key := v } } } : Tld).cells := id rfl
theorem Tld.g_l_partner_pprio (x : Tld) : x.cells[20]? = some (i64 x.l.partner.pprio) := id rfl
theorem Tld.s_l_partner_pprio (x : Tld) (v : Int) : splice x.cells 20 [i64 v] = ({ x with l := { x.l with partner := { x.l.partner with pprio := v } } } : Tld).cells := id rfl
theorem Tld.g_l_partner_port (x : Tld) : x.cells[21]? = some (i64 x.l.partner.port) := id rfl
theorem Tld.s_l_partner_port (x : Tld) (v : Int) : splice x.cells 21 [i64 v] = ({ x with l := { x.l with partner := { x.l.partner with port := v } } } : Tld).cells := id rfl
theorem Tld.g_l_partner_state (x : Tld) : x.cells[22]? = some (i64 x.l.partner.state) := id rfl
theorem Tld.s_l_partner_state (x : Tld) (v : Int) : splice x.cells 22 [i64 v] = ({ x with l := { x.l with partner := { x.l.partner with state := v } } } : Tld).cells := id rfl
theorem Tld.g_l_delay (x : Tld) : x.cells[23]? = some (i64 x.l.delay) := id rfl
theorem Tld.s_l_delay (x : Tld) (v : Int) : splice x.cells 23 [i64 v] = ({ x with l := { x.l with delay := v } } : Tld).cells := id rfl

@[ext] structure Edp where
  own : Inf
  partner : Inf
  state : Int
  mux : Int
  from_ : Int
  deriving DecidableEq, Inhabited

def Edp.cells (x : Edp) : List Value := [i64 x.own.prio, u8 x.own.sys.b0, u8 x.own.sys.b1, u8 x.own.sys.b2, u8 x.own.sys.b3, u8 x.own.sys.b4, u8 x.own.sys.b5, i64 x.own.key, i64 x.own.pprio, i64 x.own.port, i64 x.own.state, i64 x.partner.prio, u8 x.partner.sys.b0, u8 x.partner.sys.b1, u8 x.partner.sys.b2, u8 x.partner.sys.b3, u8 x.partner.sys.b4, u8 x.partner.sys.b5, i64 x.partner.key, i64 x.partner.pprio, i64 x.partner.port, i64 x.partner.state, i64 x.state, i64 x.mux, i64 x.from_]
theorem Edp.len (x : Edp) : x.cells.length = 25 := id rfl
theorem Edp.one (x : Edp) : x.cells.all S.oneCell = true := id rfl
theorem Edp.dw (x : Edp) : (x.cells.drop 0).take 25 = x.cells := id rfl
theorem Edp.sw (x y : Edp) : splice x.cells 0 y.cells = y.cells := id rfl
theorem Edp.d_own (x : Edp) : (x.cells.drop 0).take 11 = x.own.cells := id rfl
theorem Edp.s_own (x : Edp) (v : Inf) : splice x.cells 0 v.cells = ({ x with own := v } : Edp).cells := id rfl
theorem Edp.g_own_prio (x : Edp) : x.cells[0]? = some (i64 x.own.prio) := id rfl
theorem Edp.s_own_prio (x : Edp) (v : Int) : splice x.cells 0 [i64 v] = ({ x with own := { x.own with prio := v } } : Edp).cells := id rfl
theorem Edp.d_own_sys (x : Edp) : (x.cells.drop 1).take 6 = x.own.sys.cells := id rfl
theorem Edp.s_own_sys (x : Edp) (v : Mac) : splice x.cells 1 v.cells = ({ x with own := { x.own with sys := v } } : Edp).cells := id rfl
theorem Edp.g_own_key (x : Edp) : x.cells[7]? = some (i64 x.own.key) := id rfl
theorem Edp.s_own_key (x : Edp) (v : Int) : splice x.cells 7 [i64 v] = ({ x with own := { x.own with key := v } } : Edp).cells := id rfl
theorem Edp.g_own_pprio (x : Edp) : x.cells[8]? = some (i64 x.own.pprio) := id rfl
theorem Edp.s_own_pprio (x : Edp) (v : Int) : splice x.cells 8 [i64 v] = ({ x with own := { x.own with pprio := v } } : Edp).cells := id rfl
theorem Edp.g_own_port (x : Edp) : x.cells[9]? = some (i64 x.own.port) := id rfl
theorem Edp.s_own_port (x : Edp) (v : Int) : splice x.cells 9 [i64 v] = ({ x with own := { x.own with port := v } } : Edp).cells := id rfl
theorem Edp.g_own_state (x : Edp) : x.cells[10]? = some (i64 x.own.state) := id rfl
theorem Edp.s_own_state (x : Edp) (v : Int) : splice x.cells 10 [i64 v] = ({ x with own := { x.own with state := v } } : Edp).cells := id rfl
theorem Edp.d_partner (x : Edp) : (x.cells.drop 11).take 11 = x.partner.cells := id rfl
theorem Edp.s_partner (x : Edp) (v : Inf) : splice x.cells 11 v.cells = ({ x with partner := v } : Edp).cells := id rfl
theorem Edp.g_partner_prio (x : Edp) : x.cells[11]? = some (i64 x.partner.prio) := id rfl
theorem Edp.s_partner_prio (x : Edp) (v : Int) : splice x.cells 11 [i64 v] = ({ x with partner := { x.partner with prio := v } } : Edp).cells := id rfl
theorem Edp.d_partner_sys (x : Edp) : (x.cells.drop 12).take 6 = x.partner.sys.cells := id rfl
theorem Edp.s_partner_sys (x : Edp) (v : Mac) : splice x.cells 12 v.cells = ({ x with partner := { x.partner with sys := v } } : Edp).cells := id rfl
theorem Edp.g_partner_key (x : Edp) : x.cells[18]? = some (i64 x.partner.key) := id rfl
theorem Edp.s_partner_key (x : Edp) (v : Int) : splice x.cells 18 [i64 v] = ({ x with partner := { x.partner with key := v } } : Edp).cells := id rfl
theorem Edp.g_partner_pprio (x : Edp) : x.cells[19]? = some (i64 x.partner.pprio) := id rfl
theorem Edp.s_partner_pprio (x : Edp) (v : Int) : splice x.cells 19 [i64 v] = ({ x with partner := { x.partner with pprio := v } } : Edp).cells := id rfl
theorem Edp.g_partner_port (x : Edp) : x.cells[20]? = some (i64 x.partner.port) := id rfl
theorem Edp.s_partner_port (x : Edp) (v : Int) : splice x.cells 20 [i64 v] = ({ x with partner := { x.partner with port := v } } : Edp).cells := id rfl
theorem Edp.g_partner_state (x : Edp) : x.cells[21]? = some (i64 x.partner.state) := id rfl
theorem Edp.s_partner_state (x : Edp) (v : Int) : splice x.cells 21 [i64 v] = ({ x with partner := { x.partner with state := v } } : Edp).cells := id rfl
theorem Edp.g_state (x : Edp) : x.cells[22]? = some (i64 x.state) := id rfl
theorem Edp.s_state (x : Edp) (v : Int) : splice x.cells 22 [i64 v] = ({ x with state := v } : Edp).cells := id rfl
theorem Edp.g_mux (x : Edp) : x.cells[23]? = some (i64 x.mux) := id rfl
theorem Edp.s_mux (x : Edp) (v : Int) : splice x.cells 23 [i64 v] = ({ x with mux := v } : Edp).cells := id rfl
theorem Edp.g_from (x : Edp) : x.cells[24]? = some (i64 x.from_) := id rfl
theorem Edp.s_from (x : Edp) (v : Int) : splice x.cells 24 [i64 v] = ({ x with from_ := v } : Edp).cells := id rfl

@[ext] structure Mxx where
  state : Int
  from_ : Int
  deriving DecidableEq, Inhabited

def Mxx.cells (x : Mxx) : List Value := [i64 x.state, i64 x.from_]
theorem Mxx.len (x : Mxx) : x.cells.length = 2 := id rfl
theorem Mxx.one (x : Mxx) : x.cells.all S.oneCell = true := id rfl
theorem Mxx.dw (x : Mxx) : (x.cells.drop 0).take 2 = x.cells := id rfl
theorem Mxx.sw (x y : Mxx) : splice x.cells 0 y.cells = y.cells := id rfl
theorem Mxx.g_state (x : Mxx) : x.cells[0]? = some (i64 x.state) := id rfl
theorem Mxx.s_state (x : Mxx) (v : Int) : splice x.cells 0 [i64 v] = ({ x with state := v } : Mxx).cells := id rfl
theorem Mxx.g_from (x : Mxx) : x.cells[1]? = some (i64 x.from_) := id rfl
theorem Mxx.s_from (x : Mxx) (v : Int) : splice x.cells 1 [i64 v] = ({ x with from_ := v } : Mxx).cells := id rfl

@[ext] structure Ast where
  dO : Int
  port : Int
  now : Int
  is_ : Bool
  l : Lcp
  deriving DecidableEq, Inhabited

def Ast.cells (x : Ast) : List Value := [i64 x.dO, i64 x.port, i64 x.now, .bool x.is_, i64 x.l.actor.prio, u8 x.l.actor.sys.b0, u8 x.l.actor.sys.b1, u8 x.l.actor.sys.b2, u8 x.l.actor.sys.b3, u8 x.l.actor.sys.b4, u8 x.l.actor.sys.b5, i64 x.l.actor.key, i64 x.l.actor.pprio, i64 x.l.actor.port, i64 x.l.actor.state, i64 x.l.partner.prio, u8 x.l.partner.sys.b0, u8 x.l.partner.sys.b1, u8 x.l.partner.sys.b2, u8 x.l.partner.sys.b3, u8 x.l.partner.sys.b4, u8 x.l.partner.sys.b5, i64 x.l.partner.key, i64 x.l.partner.pprio, i64 x.l.partner.port, i64 x.l.partner.state, i64 x.l.delay]
theorem Ast.len (x : Ast) : x.cells.length = 27 := id rfl
theorem Ast.one (x : Ast) : x.cells.all S.oneCell = true := id rfl
theorem Ast.dw (x : Ast) : (x.cells.drop 0).take 27 = x.cells := id rfl
theorem Ast.sw (x y : Ast) : splice x.cells 0 y.cells = y.cells := id rfl
theorem Ast.g_dO (x : Ast) : x.cells[0]? = some (i64 x.dO) := id rfl
theorem Ast.s_dO (x : Ast) (v : Int) : splice x.cells 0 [i64 v] = ({ x with dO := v } : Ast).cells := id rfl
theorem Ast.g_port (x : Ast) : x.cells[1]? = some (i64 x.port) := id rfl
theorem Ast.s_port (x : Ast) (v : Int) : splice x.cells 1 [i64 v] = ({ x with port := v } : Ast).cells := id rfl
theorem Ast.g_now (x : Ast) : x.cells[2]? = some (i64 x.now) := id rfl
theorem Ast.s_now (x : Ast) (v : Int) : splice x.cells 2 [i64 v] = ({ x with now := v } : Ast).cells := id rfl
theorem Ast.g_is (x : Ast) : x.cells[3]? = some (.bool x.is_) := id rfl
theorem Ast.s_is (x : Ast) (v : Bool) : splice x.cells 3 [.bool v] = ({ x with is_ := v } : Ast).cells := id rfl
theorem Ast.d_l (x : Ast) : (x.cells.drop 4).take 23 = x.l.cells := id rfl
theorem Ast.s_l (x : Ast) (v : Lcp) : splice x.cells 4 v.cells = ({ x with l := v } : Ast).cells := id rfl
theorem Ast.d_l_actor (x : Ast) : (x.cells.drop 4).take 11 = x.l.actor.cells := id rfl
theorem Ast.s_l_actor (x : Ast) (v : Inf) : splice x.cells 4 v.cells = ({ x with l := { x.l with actor := v } } : Ast).cells := id rfl
theorem Ast.g_l_actor_prio (x : Ast) : x.cells[4]? = some (i64 x.l.actor.prio) := id rfl
theorem Ast.s_l_actor_prio (x : Ast) (v : Int) : splice x.cells 4 [i64 v] = ({ x with l := { x.l with actor := { x.l.actor with prio := v } } } : Ast).cells := id rfl
theorem Ast.d_l_actor_sys (x : Ast) : (x.cells.drop 5).take 6 = x.l.actor.sys.cells := id rfl
theorem Ast.s_l_actor_sys (x : Ast) (v : Mac) : splice x.cells 5 v.cells = ({ x with l := { x.l with actor := { x.l.actor with sys := v } } } : Ast).cells := id rfl
theorem Ast.g_l_actor_key (x : Ast) : x.cells[11]? = some (i64 x.l.actor.key) := id rfl
theorem Ast.s_l_actor_key (x : Ast) (v : Int) : splice x.cells 11 [i64 v] = ({ x with l := { x.l with actor := { x.l.actor with key := v } } } : Ast).cells := id rfl
theorem Ast.g_l_actor_pprio (x : Ast) : x.cells[12]? = some (i64 x.l.actor.pprio) := id rfl
theorem Ast.s_l_actor_pprio (x : Ast) (v : Int) : splice x.cells 12 [i64 v] = ({ x with l := { x.l with actor := { x.l.actor with pprio := v } } } : Ast).cells := id rfl
theorem Ast.g_l_actor_port (x : Ast) : x.cells[13]? = some (i64 x.l.actor.port) := id rfl
theorem Ast.s_l_actor_port (x : Ast) (v : Int) : splice x.cells 13 [i64 v] = ({ x with l := { x.l with actor := { x.l.actor with port := v } } } : Ast).cells := id rfl
theorem Ast.g_l_actor_state (x : Ast) : x.cells[14]? = some (i64 x.l.actor.state) := id rfl
theorem Ast.s_l_actor_state (x : Ast) (v : Int) : splice x.cells 14 [i64 v] = ({ x with l := { x.l with actor := { x.l.actor with state := v } } } : Ast).cells := id rfl
theorem Ast.d_l_partner (x : Ast) : (x.cells.drop 15).take 11 = x.l.partner.cells := id rfl
theorem Ast.s_l_partner (x : Ast) (v : Inf) : splice x.cells 15 v.cells = ({ x with l := { x.l with partner := v } } : Ast).cells := id rfl
theorem Ast.g_l_partner_prio (x : Ast) : x.cells[15]? = some (i64 x.l.partner.prio) := id rfl
theorem Ast.s_l_partner_prio (x : Ast) (v : Int) : splice x.cells 15 [i64 v] = ({ x with l := { x.l with partner := { x.l.partner with prio := v } } } : Ast).cells := id rfl
theorem Ast.d_l_partner_sys (x : Ast) : (x.cells.drop 16).take 6 = x.l.partner.sys.cells := id rfl
theorem Ast.s_l_partner_sys (x : Ast) (v : Mac) : splice x.cells 16 v.cells = ({ x with l := { x.l with partner := { x.l.partner with sys := v } } } : Ast).cells := id rfl
theorem Ast.g_l_partner_key (x : Ast) : x.cells[22]? = some (i64 x.l.partner.key) := id rfl
theorem Ast.s_l_partner_key (x : Ast) (v : Int) : splice x.cells 22 [i64 v] = ({ x with l := { x.l with partner := { x.l.partner with key := v } } } : Ast).cells := id rfl
theorem Ast.g_l_partner_pprio (x : Ast) : x.cells[23]? = some (i64 x.l.partner.pprio) := id rfl
theorem Ast.s_l_partner_pprio (x : Ast) (v : Int) : splice x.cells 23 [i64 v] = ({ x with l := { x.l with partner := { x.l.partner with pprio := v } } } : Ast).cells := id rfl
theorem Ast.g_l_partner_port (x : Ast) : x.cells[24]? = some (i64 x.l.partner.port) := id rfl
theorem Ast.s_l_partner_port (x : Ast) (v : Int) : splice x.cells 24 [i64 v] = ({ x with l := { x.l with partner := { x.l.partner with port := v } } } : Ast).cells := id rfl
theorem Ast.g_l_partner_state (x : Ast) : x.cells[25]? = some (i64 x.l.partner.state) := id rfl
theorem Ast.s_l_partner_state (x : Ast) (v : Int) : splice x.cells 25 [i64 v] = ({ x with l := { x.l with partner := { x.l.partner with state := v } } } : Ast).cells := id rfl
theorem Ast.g_l_delay (x : Ast) : x.cells[26]? = some (i64 x.l.delay) := id rfl
theorem Ast.s_l_delay (x : Ast) (v : Int) : splice x.cells 26 [i64 v] = ({ x with l := { x.l with delay := v } } : Ast).cells := id rfl

attribute [push_cast] Inf.len Inf.one Inf.dw Inf.sw Inf.g_prio Inf.s_prio Inf.d_sys Inf.s_sys Inf.g_key Inf.s_key Inf.g_pprio Inf.s_pprio Inf.g_port Inf.s_port Inf.g_state Inf.s_state Lcp.len Lcp.one Lcp.dw Lcp.sw Lcp.d_actor Lcp.s_actor Lcp.g_actor_prio Lcp.s_actor_prio Lcp.d_actor_sys Lcp.s_actor_sys Lcp.g_actor_key Lcp.s_actor_key Lcp.g_actor_pprio Lcp.s_actor_pprio Lcp.g_actor_port Lcp.s_actor_port Lcp.g_actor_state Lcp.s_actor_state Lcp.d_partner Lcp.s_partner Lcp.g_partner_prio Lcp.s_partner_prio Lcp.d_partner_sys Lcp.s_partner_sys Lcp.g_partner_key Lcp.s_partner_key Lcp.g_partner_pprio Lcp.s_partner_pprio Lcp.g_partner_port Lcp.s_partner_port Lcp.g_partner_state Lcp.s_partner_state Lcp.g_delay Lcp.s_delay Tld.len Tld.one Tld.dw Tld.sw Tld.g_port Tld.s_port Tld.d_l Tld.s_l Tld.d_l_actor Tld.s_l_actor Tld.g_l_actor_prio Tld.s_l_actor_prio Tld.d_l_actor_sys Tld.s_l_actor_sys Tld.g_l_actor_key Tld.s_l_actor_key Tld.g_l_actor_pprio Tld.s_l_actor_pprio Tld.g_l_actor_port Tld.s_l_actor_port Tld.g_l_actor_state Tld.s_l_actor_state Tld.d_l_partner Tld.s_l_partner Tld.g_l_partner_prio Tld.s_l_partner_prio Tld.d_l_partner_sys Tld.s_l_partner_sys Tld.g_l_partner_key Tld.s_l_partner_key Tld.g_l_partner_pprio Tld.s_l_partner_pprio Tld.g_l_partner_port Tld.s_l_partner_port Tld.g_l_partner_state Tld.s_l_partner_state Tld.g_l_delay Tld.s_l_delay Edp.len Edp.one Edp.dw Edp.sw Edp.d_own Edp.s_own Edp.g_own_prio Edp.s_own_prio Edp.d_own_sys Edp.s_own_sys Edp.g_own_key Edp.s_own_key Edp.g_own_pprio Edp.s_own_pprio Edp.g_own_port Edp.s_own_port Edp.g_own_state Edp.s_own_state Edp.d_partner Edp.s_partner Edp.g_partner_prio Edp.s_partner_prio Edp.d_partner_sys Edp.s_partner_sys Edp.g_partner_key Edp.s_partner_key Edp.g_partner_pprio Edp.s_partner_pprio Edp.g_partner_port Edp.s_partner_port Edp.g_partner_state Edp.s_partner_state Edp.g_state Edp.s_state Edp.g_mux Edp.s_mux Edp.g_from Edp.s_from Mxx.len Mxx.one Mxx.dw Mxx.sw Mxx.g_state Mxx.s_state Mxx.g_from Mxx.s_from Ast.len Ast.one Ast.dw Ast.sw Ast.g_dO Ast.s_dO Ast.g_port Ast.s_port Ast.g_now Ast.s_now Ast.g_is Ast.s_is Ast.d_l Ast.s_l Ast.d_l_actor Ast.s_l_actor Ast.g_l_actor_prio Ast.s_l_actor_prio Ast.d_l_actor_sys Ast.s_l_actor_sys Ast.g_l_actor_key Ast.s_l_actor_key Ast.g_l_actor_pprio Ast.s_l_actor_pprio Ast.g_l_actor_port Ast.s_l_actor_port Ast.g_l_actor_state Ast.s_l_actor_state Ast.d_l_partner Ast.s_l_partner Ast.g_l_partner_prio Ast.s_l_partner_prio Ast.d_l_partner_sys Ast.s_l_partner_sys Ast.g_l_partner_key Ast.s_l_partner_key Ast.g_l_partner_pprio Ast.s_l_partner_pprio Ast.g_l_partner_port Ast.s_l_partner_port Ast.g_l_partner_state Ast.s_l_partner_state Ast.g_l_delay Ast.s_l_delay

def Inf.lits (x : Inf) : List Lit := [.int .i64 x.prio, .int .u8 x.sys.b0, .int .u8 x.sys.b1, .int .u8 x.sys.b2, .int .u8 x.sys.b3, .int .u8 x.sys.b4, .int .u8 x.sys.b5, .int .i64 x.key, .int .i64 x.pprio, .int .i64 x.port, .int .i64 x.state]
def Lcp.lits (x : Lcp) : List Lit := [.int .i64 x.actor.prio, .int .u8 x.actor.sys.b0, .int .u8 x.actor.sys.b1, .int .u8 x.actor.sys.b2, .int .u8 x.actor.sys.b3, .int .u8 x.actor.sys.b4, .int .u8 x.actor.sys.b5, .int .i64 x.actor.key, .int .i64 x.actor.pprio, .int .i64 x.actor.port, .int .i64 x.actor.state, .int .i64 x.partner.prio, .int .u8 x.partner.sys.b0, .int .u8 x.partner.sys.b1, .int .u8 x.partner.sys.b2, .int .u8 x.partner.sys.b3, .int .u8 x.partner.sys.b4, .int .u8 x.partner.sys.b5, .int .i64 x.partner.key, .int .i64 x.partner.pprio, .int .i64 x.partner.port, .int .i64 x.partner.state, .int .i64 x.delay]
def Tld.lits (x : Tld) : List Lit := [.int .i64 x.port, .int .i64 x.l.actor.prio, .int .u8 x.l.actor.sys.b0, .int .u8 x.l.actor.sys.b1, .int .u8 x.l.actor.sys.b2, .int .u8 x.l.actor.sys.b3, .int .u8 x.l.actor.sys.b4, .int .u8 x.l.actor.sys.b5, .int .i64 x.l.actor.key, .int .i64 x.l.actor.pprio, .int .i64 x.l.actor.port, .int .i64 x.l.actor.state, .int .i64 x.l.partner.prio, .int .u8 x.l.partner.sys.b0, .int .u8 x.l.partner.sys.b1, .int .u8 x.l.partner.sys.b2, .int .u8 x.l.partner.sys.b3, .int .u8 x.l.partner.sys.b4, .int .u8 x.l.partner.sys.b5, .int .i64 x.l.partner.key, .int .i64 x.l.partner.pprio, .int .i64 x.l.partner.port, .int .i64 x.l.partner.state, .int .i64 x.l.delay]
def Inf.ok (x : Inf) : Prop := isI x.prio ∧ x.sys.ok ∧ isI x.key ∧ isI x.pprio ∧ isI x.port ∧ isI x.state
def Lcp.ok (x : Lcp) : Prop := x.actor.ok ∧ x.partner.ok ∧ isI x.delay
def Tld.ok (x : Tld) : Prop := isI x.port ∧ x.l.ok
def Edp.ok (x : Edp) : Prop := x.own.ok ∧ x.partner.ok ∧ isI x.state ∧ isI x.mux ∧ isI x.from_
def Mxx.ok (x : Mxx) : Prop := isI x.state ∧ isI x.from_
def Ast.ok (x : Ast) : Prop := isI x.dO ∧ isI x.port ∧ isI x.now ∧ x.l.ok

theorem Inf.lits_inj {a b : Inf} : a.lits = b.lits ↔ a = b := by
  constructor
  · intro h
    simp only [Inf.lits, List.cons.injEq, Lit.int.injEq, Lit.bool.injEq, true_and, and_true] at h
    obtain ⟨h0, h1, h2, h3, h4, h5, h6, h7, h8, h9, h10⟩ := h
    exact (Inf.ext h0 (Mac.ext h1 h2 h3 h4 h5 h6) h7 h8 h9 h10)
  · rintro rfl; rfl
theorem Lcp.lits_inj {a b : Lcp} : a.lits = b.lits ↔ a = b := by
  constructor
  · intro h
    simp only [Lcp.lits, List.cons.injEq, Lit.int.injEq, Lit.bool.injEq, true_and, and_true] at h
    obtain ⟨h0, h1, h2, h3, h4, h5, h6, h7, h8, h9, h10, h11, h12, h13, h14, h15, h16, h17, h18, h19, h20, h21, h22⟩ := h
    exact (Lcp.ext (Inf.ext h0 (Mac.ext h1 h2 h3 h4 h5 h6) h7 h8 h9 h10) (Inf.ext h11 (Mac.ext h12 h13 h14 h15 h16 h17) h18 h19 h20 h21) h22)
  · rintro rfl; rfl
theorem Tld.lits_inj {a b : Tld} : a.lits = b.lits ↔ a = b := by
  constructor
  · intro h
    simp only [Tld.lits, List.cons.injEq, Lit.int.injEq, Lit.bool.injEq, true_and, and_true] at h
    obtain ⟨h0, h1, h2, h3, h4, h5, h6, h7, h8, h9, h10, h11, h12, h13, h14, h15, h16, h17, h18, h19, h20, h21, h22, h23⟩ := h
    exact (Tld.ext h0 (Lcp.ext (Inf.ext h1 (Mac.ext h2 h3 h4 h5 h6 h7) h8 h9 h10 h11) (Inf.ext h12 (Mac.ext h13 h14 h15 h16 h17 h18) h19 h20 h21 h22) h23))
  · rintro rfl; rfl

end Go.Gx
end

section
/- Pointers that are compared. -/
namespace Go.Gx
open Go
variable {P : Program} {K : Value → World → Prop} {w : World}

/-- a type of pointers to what has cells -/
class PtT (P : Program) (T : TypeId) : Prop where
  und : ∃ E j, P.underlying T = some (.pointer E) ∧ P.info? E = some j ∧ j.size ≠ 0

theorem run_equal_ptr {T : TypeId} [hT : PtT P T] {a b : Nat} {x y : List Value} {TX TY : TypeId} (ha : w.heap[a]? = some (cellsO x TX)) (hb : w.heap[b]? = some (cellsO y TY)) :
    (Op.equal T (pt a 0) (pt b 0)).run P w = .ok (decide (a = b)) w := by
  obtain ⟨E, j, hp, hte, hsz⟩ := hT.und
  by_cases e : a = b
  · subst e
    have h : ∀ d : Nat, (Op.equalIn (d + 1) T (.pointer (some ⟨a, 0, none⟩)) (.pointer (some ⟨a, 0, none⟩))).run P w = .ok true w := fun d => by
      simp [Op.equalIn, run_underlying hp, sizeOf, typeInfo, hte, run_sameAddr_same]
    rw [decide_eq_true rfl]
    simp [Op.equal, Op.maxDepth, pt, h 9999]
  · have hne : (⟨a, 0, none⟩ : Addr) ≠ ⟨b, 0, none⟩ := fun h => e (by cases h; rfl)
    have h : ∀ d : Nat, (Op.equalIn (d + 1) T (.pointer (some ⟨a, 0, none⟩)) (.pointer (some ⟨b, 0, none⟩))).run P w = .ok false w := fun d => by
      simp [Op.equalIn, run_underlying hp, sizeOf, typeInfo, hte, hsz, run_sameAddr_other w hne ha hb]
    rw [decide_eq_false e]
    simp [Op.equal, Op.maxDepth, pt, h 9999]

theorem s_eqP {T : TypeId} [hT : PtT P T] {a b : Nat} {x y : List Value} {TX TY : TypeId} (ha : w.heap[a]? = some (cellsO x TX)) (hb : w.heap[b]? = some (cellsO y TY))
    (h : K (.bool (decide (a = b))) w) : opS P (S.binG .eql T (pt a 0) (pt b 0)) K w := by
  have hr := run_equal_ptr (P := P) (T := T) ha hb
  unfold opS S.binG pt
  simp only []
  have hg : ∀ op, (eqGuard op T (.tmp 0) (.tmp 0) (.pointer (some ⟨a, 0, none⟩)) (.pointer (some ⟨b, 0, none⟩))).run P w = .ok () w := fun op => by cases op <;> rfl
  rw [Sem.run_bind, hg, Result.andThen_ok, Sem.run_bind]
  simp only [binOp]
  rw [Sem.run_bind]
  unfold pt at hr
  rw [hr, Result.andThen_ok]
  exact h

theorem s_neP {T : TypeId} [hT : PtT P T] {a b : Nat} {x y : List Value} {TX TY : TypeId} (ha : w.heap[a]? = some (cellsO x TX)) (hb : w.heap[b]? = some (cellsO y TY))
    (h : K (.bool (!decide (a = b))) w) : opS P (S.binG .neq T (pt a 0) (pt b 0)) K w := by
  have hr := run_equal_ptr (P := P) (T := T) ha hb
  unfold opS S.binG pt
  simp only []
  have hg : ∀ op, (eqGuard op T (.tmp 0) (.tmp 0) (.pointer (some ⟨a, 0, none⟩)) (.pointer (some ⟨b, 0, none⟩))).run P w = .ok () w := fun op => by cases op <;> rfl
  rw [Sem.run_bind, hg, Result.andThen_ok, Sem.run_bind]
  simp only [binOp]
  rw [Sem.run_bind]
  unfold pt at hr
  rw [hr, Result.andThen_ok]
  exact h

end Go.Gx
end

section
/- Links that are one: what they do, plainly. -/
set_option maxRecDepth 100000
namespace Go.Gx
open Go

/-! ### Bits -/

def bAnd (a b : Int) : Int := IntKind.i64.wrap (BitVec.ofInt 64 a &&& BitVec.ofInt 64 b).toNat
def bOr (a b : Int) : Int := IntKind.i64.wrap (BitVec.ofInt 64 a ||| BitVec.ofInt 64 b).toNat
def bXor (a b : Int) : Int := IntKind.i64.wrap (BitVec.ofInt 64 a ^^^ BitVec.ofInt 64 b).toNat
def bClr (a b : Int) : Int := IntKind.i64.wrap (BitVec.ofInt 64 a &&& ~~~ BitVec.ofInt 64 b).toNat

section
variable {P : Program} {K : Value → World → Prop} {w : World}
theorem s_bAnd (a b : Int) : opS P (S.binI .and (.int .i64 a) (.int .i64 b)) K w = K (.int .i64 (bAnd a b)) w := id rfl
theorem s_bOr (a b : Int) : opS P (S.binI .or (.int .i64 a) (.int .i64 b)) K w = K (.int .i64 (bOr a b)) w := id rfl
theorem s_bXor (a b : Int) : opS P (S.binI .xor (.int .i64 a) (.int .i64 b)) K w = K (.int .i64 (bXor a b)) w := id rfl
theorem s_bClr (a b : Int) : opS P (S.binI .andNot (.int .i64 a) (.int .i64 b)) K w = K (.int .i64 (bClr a b)) w := id rfl
end
attribute [push_cast] s_bAnd s_bOr s_bXor s_bClr

def isSt (n : Int) : Prop := 0 ≤ n ∧ n ≤ 255
instance (n : Int) : Decidable (isSt n) := by unfold isSt; infer_instance
theorem isSt.fin {n : Int} (h : isSt n) : ∃ k : Fin 256, n = (k.1 : Int) := by
  obtain ⟨h0, h1⟩ := h
  exact ⟨⟨n.toNat, by omega⟩, by simp; omega⟩
theorem isSt.i {n : Int} (h : isSt n) : isI n := by unfold isSt at h; exact isI_iff.2 (by omega)
theorem st_all {p : Int → Prop} (h : ∀ k : Fin 256, p (k.1 : Int)) {n : Int} (hn : isSt n) : p n := by
  obtain ⟨k, rfl⟩ := hn.fin
  exact h k

theorem st_clr8 {n : Int} (h : isSt n) : isSt (bClr n 8) := st_all (p := fun n => isSt (bClr n 8)) (by decide +kernel) h
theorem st_old {n : Int} (h : isSt n) : isSt (bOr (bClr n 8) 2) := st_all (p := fun n => isSt (bOr (bClr n 8) 2)) (by decide +kernel) h
theorem st_or64 {n : Int} (h : isSt n) : isSt (bOr n 64) := st_all (p := fun n => isSt (bOr n 64)) (by decide +kernel) h
theorem st_or128 {n : Int} (h : isSt n) : isSt (bOr n 128) := st_all (p := fun n => isSt (bOr n 128)) (by decide +kernel) h
theorem st_and15 {n : Int} (h : isSt n) : isSt (bAnd n 15) := st_all (p := fun n => isSt (bAnd n 15)) (by decide +kernel) h

/-! ### An end -/

def momOk (n : Int) : Prop := 0 ≤ n ∧ n ≤ 1099511627776
instance (n : Int) : Decidable (momOk n) := by unfold momOk; infer_instance
theorem momOk.i {n : Int} (h : momOk n) : isI n := by unfold momOk at h; exact isI_iff.2 (by omega)

def wth (most n : Int) : Prop := 0 ≤ n ∧ n ≤ most
instance (m n : Int) : Decidable (wth m n) := by unfold wth; infer_instance
def Inf.right (x : Inf) : Prop := wth 65535 x.prio ∧ wth 65535 x.key ∧ wth 65535 x.pprio ∧ wth 65535 x.port ∧ wth 255 x.state
instance (x : Inf) : Decidable x.right := by unfold Inf.right; infer_instance
def Lcp.right (x : Lcp) : Prop := x.actor.right ∧ x.partner.right ∧ wth 65535 x.delay
instance (x : Lcp) : Decidable x.right := by unfold Lcp.right; infer_instance

/-- whether one end knows the other one -/
def knowsP (p a : Inf) : Bool :=
  decide ({ p with state := 0 } = { a with state := 0 }) && decide (bAnd (bXor p.state a.state) 4 = 0) && decide (bAnd (bClr p.state a.state) 8 = 0)

def Inf.zero : Inf := ⟨0, ⟨0, 0, 0, 0, 0, 0⟩, 0, 0, 0, 0⟩
def Inf.setS (x : Inf) (s : Int) : Inf := { x with state := s }

def Edp.expire (x : Edp) (now : Int) : Edp := { x with state := 1, from_ := now, partner := x.partner.setS (bOr (bClr x.partner.state 8) 2) }
def Edp.enableP (x : Edp) (is : Bool) (now : Int) : Edp :=
  if momOk now then (if is = false then { x with state := 0, partner := x.partner.setS (bClr x.partner.state 8) } else if x.state = 0 then x.expire now else x) else x
def momE (now : Int) : Int := if momOk now then 0 else 1
def Edp.actorS (x : Edp) : Int := if x.state = 2 then bOr (bOr x.own.state x.mux) 64 else if x.state = 1 then bOr (bOr x.own.state x.mux) 128 else bOr x.own.state x.mux
def Edp.actor (x : Edp) : Inf := x.own.setS x.actorS
def Edp.wait (x : Edp) : Int := if x.state = 1 ∨ bAnd x.own.state 2 ≠ 0 then 3 else 90
def Edp.tickP (x : Edp) (now : Int) : Edp :=
  if momOk now then (if now - x.from_ < x.wait then x else if x.state = 3 then x.expire now else if x.state = 1 then { x with state := 2, partner := Inf.zero } else x) else x
def bareP (x : Inf) : Inf := x.setS (bAnd x.state 15)
def Edp.takeE (x : Edp) (l : Lcp) (now : Int) : Int :=
  if momOk now then (if x.state = 0 then 7 else if l.right then (if l.actor.sys = x.own.sys ∧ l.actor.port = x.own.port then 5 else 0) else 2) else 1
def Edp.takeT (x : Edp) (l : Lcp) (now : Int) : Bool := decide (x.takeE l now = 0) && !decide (bareP l.partner = bareP x.actor)
def Edp.takeP (x : Edp) (l : Lcp) (now : Int) : Edp :=
  if x.takeE l now = 0 then
    { x with state := 3, from_ := now, partner := if bAnd l.actor.state 4 ≠ 0 ∧ knowsP l.partner x.actor = false then l.actor.setS (bClr l.actor.state 8) else l.actor }
  else x
def Edp.muxP (x : Edp) (b : Int) : Edp := { x with mux := b }

structure Edp.wf (x : Edp) : Prop where
  own : x.own.right
  partner : x.partner.right
  state : 0 ≤ x.state ∧ x.state ≤ 3
  mux : x.mux = 0 ∨ x.mux = 8 ∨ x.mux = 24 ∨ x.mux = 56
  from_ : momOk x.from_
  st : x.own.state = 7
  sys : x.own.sys.ok
  psys : x.partner.sys.ok

theorem Inf.right.ok {x : Inf} (h : x.right) (hs : x.sys.ok) : x.ok := by
  obtain ⟨h1, h2, h3, h4, h5⟩ := h
  unfold wth at *
  refine ⟨?_, hs, ?_, ?_, ?_, ?_⟩ <;> exact isI_iff.2 (by omega)
theorem Inf.right.st {x : Inf} (h : x.right) : isSt x.state := h.2.2.2.2
theorem Inf.right.setS {x : Inf} (h : x.right) {s : Int} (hs : isSt s) : (x.setS s).right := ⟨h.1, h.2.1, h.2.2.1, h.2.2.2.1, hs⟩
theorem Inf.zero_right : Inf.zero.right := by decide
theorem Inf.zero_ok : Inf.zero.sys.ok := by refine ⟨?_, ?_, ?_, ?_, ?_, ?_⟩ <;> (unfold isB; decide)
theorem mux_st {s m : Int} (hs : s = 7) (h : m = 0 ∨ m = 8 ∨ m = 24 ∨ m = 56) : isSt (bOr s m) := by
  subst hs; rcases h with rfl | rfl | rfl | rfl <;> decide +kernel
theorem Edp.wf.actor {x : Edp} (h : x.wf) : x.actor.right ∧ x.actor.sys.ok := by
  refine ⟨h.own.setS ?_, h.sys⟩
  have := mux_st h.st h.mux
  unfold Edp.actorS
  split
  · exact st_or64 this
  · split
    · exact st_or128 this
    · exact this
theorem Edp.wf.expire {x : Edp} (h : x.wf) {now : Int} (hn : momOk now) : (x.expire now).wf :=
  ⟨h.own, h.partner.setS (st_old h.partner.st), by show (0 : Int) ≤ 1 ∧ (1 : Int) ≤ 3; decide, h.mux, hn, h.st, h.sys, h.psys⟩
theorem Edp.wf.enable {x : Edp} (h : x.wf) (is : Bool) (now : Int) : (x.enableP is now).wf := by
  unfold Edp.enableP
  split
  · rename_i hm
    split
    · exact ⟨h.own, h.partner.setS (st_clr8 h.partner.st), by show (0 : Int) ≤ 0 ∧ (0 : Int) ≤ 3; decide, h.mux, h.from_, h.st, h.sys, h.psys⟩
    · split
      · exact h.expire hm
      · exact h
  · exact h
theorem Edp.wf.tick {x : Edp} (h : x.wf) (now : Int) : (x.tickP now).wf := by
  unfold Edp.tickP
  split
  · rename_i hm
    split
    · exact h
    · split
      · exact h.expire hm
      · split
        · exact ⟨h.own, Inf.zero_right, by show (0 : Int) ≤ 2 ∧ (2 : Int) ≤ 3; decide, h.mux, h.from_, h.st, h.sys, Inf.zero_ok⟩
        · exact h
  · exact h
theorem Edp.takeE_0 {x : Edp} {l : Lcp} {now : Int} (h : x.takeE l now = 0) : momOk now ∧ x.state ≠ 0 ∧ l.right := by
  unfold Edp.takeE at h
  by_cases h1 : momOk now
  · rw [if_pos h1] at h
    by_cases h2 : x.state = 0
    · rw [if_pos h2] at h; omega
    · rw [if_neg h2] at h
      by_cases h3 : l.right
      · exact ⟨h1, h2, h3⟩
      · rw [if_neg h3] at h; omega
  · rw [if_neg h1] at h; omega
theorem Edp.wf.take {x : Edp} (h : x.wf) {l : Lcp} (hl : l.actor.sys.ok) (now : Int) : (x.takeP l now).wf := by
  unfold Edp.takeP
  split
  · rename_i he
    obtain ⟨h1, _, h3⟩ := Edp.takeE_0 he
    refine ⟨h.own, ?_, by show (0 : Int) ≤ 3 ∧ (3 : Int) ≤ 3; decide, h.mux, h1, h.st, h.sys, ?_⟩
    · show (if _ then _ else _ : Inf).right
      split
      · exact h3.1.setS (st_clr8 h3.1.st)
      · exact h3.1
    · show (if _ then _ else _ : Inf).sys.ok
      split <;> exact hl
  · exact h

/-! ### What a link has come to -/

def Mxx.next (m : Mxx) (sel : Bool) (p now : Int) : Option Int :=
  if sel = false ∧ m.state ≠ 0 then some 0 else if sel = true ∧ m.state = 0 then some 1
  else if m.state = 1 ∧ now - m.from_ ≥ 2 then some 2
  else if (m.state = 3 ∨ m.state = 4) ∧ bAnd p 8 = 0 then some 2
  else if m.state = 4 ∧ bAnd p 16 = 0 then some 3
  else if m.state = 2 ∧ bAnd p 8 ≠ 0 then some 3
  else if m.state = 3 ∧ bAnd p 16 ≠ 0 then some 4 else none
def Mxx.goto (m : Mxx) (to now : Int) : Mxx := { state := to, from_ := if to = 1 then now else m.from_ }
def Mxx.stepP (m : Mxx) (sel : Bool) (p now : Int) : Mxx := match m.next sel p now with | some to => m.goto to now | none => m
def Mxx.bits (m : Mxx) : Int := if m.state = 4 then 56 else if m.state = 3 then 24 else if m.state = 2 then 8 else 0
structure Mxx.wf (m : Mxx) : Prop where
  state : 0 ≤ m.state ∧ m.state ≤ 4
  from_ : momOk m.from_

theorem Mxx.next_st {m : Mxx} {sel : Bool} {p now t : Int} (h : m.next sel p now = some t) : 0 ≤ t ∧ t ≤ 4 := by
  unfold Mxx.next at h
  repeat' split at h
  all_goals first | (cases h; decide) | cases h
theorem Mxx.wf.goto {m : Mxx} (h : m.wf) {t now : Int} (ht : 0 ≤ t ∧ t ≤ 4) (hn : momOk now) : (m.goto t now).wf := by
  refine ⟨ht, ?_⟩
  show momOk (if _ then _ else _)
  split
  · exact hn
  · exact h.from_

/-- it settles: what it comes to, and whether it went on -/
def Mxx.settle (sel : Bool) (p now : Int) : Nat → Mxx → Mxx × Bool
  | 0, m => (m, false)
  | n + 1, m => match m.next sel p now with | none => (m, false) | some t => ((Mxx.settle sel p now n (m.goto t now)).1, true)
def Mxx.rank (m : Mxx) (sel : Bool) (p now : Int) : Nat :=
  if sel = false then (if m.state = 0 then 0 else 1)
  else if m.state = 0 then 4
  else if m.state = 1 then 3
  else if bAnd p 8 = 0 then (if m.state = 2 then 0 else 1)
  else if bAnd p 16 = 0 then (if m.state = 2 then 1 else if m.state = 3 then 0 else 1)
  else (if m.state = 2 then 2 else if m.state = 3 then 1 else 0)
theorem Mxx.rank_lt {m : Mxx} (hw : m.wf) {sel : Bool} {p now t : Int} (h : m.next sel p now = some t) : (m.goto t now).rank sel p now < m.rank sel p now := by
  obtain ⟨⟨h0, h1⟩, _⟩ := hw
  have hs : m.state = 0 ∨ m.state = 1 ∨ m.state = 2 ∨ m.state = 3 ∨ m.state = 4 := by omega
  unfold Mxx.next at h
  unfold Mxx.rank Mxx.goto
  by_cases h8 : bAnd p 8 = 0 <;> by_cases h16 : bAnd p 16 = 0 <;> cases sel <;> rcases hs with e | e | e | e | e <;>
    simp only [e, h8, h16] at h ⊢ <;> simp at h ⊢ <;> (try split at h) <;> (try omega) <;> (try (cases h; simp)) <;> (try (obtain ⟨_, rfl⟩ := h; simp)) <;> (try (subst h; simp))
theorem Mxx.rank_le (m : Mxx) (sel : Bool) (p now : Int) : m.rank sel p now ≤ 4 := by
  unfold Mxx.rank
  repeat' split
  all_goals omega
theorem Mxx.settle_more {sel : Bool} {p now : Int} : ∀ (n : Nat) {m : Mxx}, m.wf → momOk now → m.rank sel p now ≤ n → Mxx.settle sel p now (n + 1) m = Mxx.settle sel p now n m
  | 0, m, hw, hn, h => by
    unfold Mxx.settle
    cases e : m.next sel p now with
    | none => rfl
    | some t => have := Mxx.rank_lt hw e; omega
  | n + 1, m, hw, hn, h => by
    rw [Mxx.settle]
    conv => rhs; rw [Mxx.settle]
    cases e : m.next sel p now with
    | none => rfl
    | some t =>
      have := Mxx.rank_lt hw e
      simp only []
      rw [Mxx.settle_more n (hw.goto (Mxx.next_st e) hn) hn (by omega)]
theorem Mxx.settle_wf {sel : Bool} {p now : Int} : ∀ (n : Nat) {m : Mxx}, m.wf → momOk now → (Mxx.settle sel p now n m).1.wf
  | 0, m, hw, hn => hw
  | n + 1, m, hw, hn => by
    rw [Mxx.settle]
    cases e : m.next sel p now with
    | none => exact hw
    | some t => exact Mxx.settle_wf n (hw.goto (Mxx.next_st e) hn) hn
theorem Mxx.wf.bits {m : Mxx} : m.bits = 0 ∨ m.bits = 8 ∨ m.bits = 24 ∨ m.bits = 56 := by
  unfold Mxx.bits; split
  · simp
  · split
    · simp
    · split <;> simp

/-! ### Links, and what is one of these -/

structure Lk where
  e : Edp
  m : Mxx
  port : Int
  picked : Bool
  due : Bool
  last : Int
  deriving DecidableEq, Inhabited

structure Grp where
  l : List Lk
  most : Int
  deriving DecidableEq, Inhabited

structure Lk.wf (x : Lk) : Prop where
  e : x.e.wf
  m : x.m.wf
  port : x.e.own.port = x.port
  last : x.last = -1 ∨ momOk x.last

def Lk.sound (x : Lk) : Bool := decide (x.e.state = 3) && decide (bAnd x.e.partner.state 4 ≠ 0)
def sysI (x : Inf) : Inf := { x with pprio := 0, port := 0, state := 0 }

def Lk.enableP (x : Lk) (is : Bool) (now : Int) : Lk := { x with e := x.e.enableP is now, due := x.due || (decide (x.e.state = 0) && !decide ((x.e.enableP is now).state = 0)) }
def Lk.takeP (x : Lk) (l : Lcp) (now : Int) : Lk := { x with e := x.e.takeP l now, due := x.due || x.e.takeT l now }
def Lk.tickP (x : Lk) (now : Int) : Lk := { x with e := x.e.tickP now, due := x.due || (decide (x.e.state = 3) && decide ((x.e.tickP now).state = 1)) }

def Lk.keep (x : Lk) : Lk := { x with picked := x.picked && x.sound }
def lead (l : List Lk) : Option Nat := (l.findIdx? (·.picked)) <|> (l.findIdx? (·.sound))
/-- links are selected behind the k-th, whose partner's system is s, as long as some are left -/
def pickL (k : Nat) (s : Inf) : Nat → Int → List Lk → List Lk
  | _, _, [] => []
  | i, left, x :: l =>
    if i = k then { x with picked := true } :: pickL k s (i + 1) left l
    else if x.sound = true ∧ 0 < left ∧ sysI x.e.partner = s then { x with picked := true } :: pickL k s (i + 1) (left - 1) l
    else { x with picked := false } :: pickL k s (i + 1) left l
def pickP (g : Grp) : Grp :=
  let l1 := g.l.map Lk.keep
  match lead l1 with
  | none => { g with l := l1 }
  | some k => { g with l := pickL k (sysI (l1.getD k default).e.partner) 0 (g.most - 1) l1 }

def Lk.settleP (x : Lk) (now : Int) : Lk :=
  let r := Mxx.settle x.picked x.e.partner.state now 5 x.m
  { x with m := r.1, due := x.due || r.2, e := x.e.muxP r.1.bits }
def Lk.wait (x : Lk) : Int := if bAnd x.e.partner.state 2 ≠ 0 then 1 else 30
def Lk.tells (x : Lk) (now : Int) : Bool := !decide (x.e.state = 0) && (x.due || decide (x.last = -1) || decide (now - x.last ≥ x.wait))
def Lk.told (x : Lk) : Tld := ⟨x.port, ⟨x.e.actor, x.e.partner, 0⟩⟩
def Lk.says (x : Lk) (now : Int) : Lk := if x.tells now = true then { x with due := false, last := now } else x
def saysL (l : List Lk) (now : Int) : List Tld := (l.filter (·.tells now)).map Lk.told

def Grp.ticked (g : Grp) (now : Int) : Grp := { g with l := (pickP { g with l := g.l.map (·.tickP now) }).l.map (·.settleP now) }
def Grp.tickP (g : Grp) (now : Int) : Grp := if momOk now then { g with l := (g.ticked now).l.map (·.says now) } else g
def Grp.tickO (g : Grp) (now : Int) : List Tld := if momOk now then saysL (g.ticked now).l now else []

def Grp.at_ (g : Grp) (port : Int) : Option Nat := g.l.findIdx? fun x => decide (x.port = port)
def Grp.on (g : Grp) (port : Int) (f : Lk → Lk) : Grp := match g.at_ port with | none => g | some i => { g with l := g.l.modify i f }
def Grp.enableP (g : Grp) (port : Int) (is : Bool) (now : Int) : Grp := g.on port (·.enableP is now)
def Grp.enableE (g : Grp) (port now : Int) : Int := match g.at_ port with | none => 4 | some _ => momE now
def Grp.takeP (g : Grp) (port : Int) (l : Lcp) (now : Int) : Grp := g.on port (·.takeP l now)
def Grp.takeE (g : Grp) (port : Int) (l : Lcp) (now : Int) : Int := match g.at_ port with | none => 4 | some i => (g.l.getD i default).e.takeE l now

def Grp.up (g : Grp) : List Int := (g.l.filter fun x => decide (x.m.state = 4)).map (·.port)
def Grp.pickedP (g : Grp) : List Int := (g.l.filter (·.picked)).map (·.port)
def Grp.partner (g : Grp) : Inf × Bool := match g.l.findIdx? (·.picked) with | none => (Inf.zero, false) | some i => ((g.l.getD i default).e.partner, true)

structure Grp.wf (g : Grp) : Prop where
  l : ∀ x ∈ g.l, x.wf
  most : 1 ≤ g.most ∧ g.most ≤ 32
  len : g.l.length ≤ 32

/-! #### It stays so -/

theorem Lk.wf.enable {x : Lk} (h : x.wf) (is : Bool) (now : Int) : (x.enableP is now).wf := by
  refine ⟨h.e.enable is now, h.m, ?_, h.last⟩
  show (x.e.enableP is now).own.port = x.port
  rw [← h.port]
  unfold Edp.enableP
  repeat' split
  all_goals rfl
theorem Lk.wf.take {x : Lk} (h : x.wf) {l : Lcp} (hl : l.actor.sys.ok) (now : Int) : (x.takeP l now).wf := by
  refine ⟨h.e.take hl now, h.m, ?_, h.last⟩
  show (x.e.takeP l now).own.port = x.port
  rw [← h.port]
  unfold Edp.takeP
  split <;> rfl
theorem Lk.wf.tick {x : Lk} (h : x.wf) (now : Int) : (x.tickP now).wf := by
  refine ⟨h.e.tick now, h.m, ?_, h.last⟩
  show (x.e.tickP now).own.port = x.port
  rw [← h.port]
  unfold Edp.tickP
  repeat' split
  all_goals rfl
theorem Lk.wf.pick {x : Lk} (h : x.wf) (b : Bool) : ({ x with picked := b } : Lk).wf := ⟨h.e, h.m, h.port, h.last⟩
theorem Edp.wf.muxP {x : Edp} (h : x.wf) {b : Int} (hb : b = 0 ∨ b = 8 ∨ b = 24 ∨ b = 56) : (x.muxP b).wf := ⟨h.own, h.partner, h.state, hb, h.from_, h.st, h.sys, h.psys⟩
theorem Lk.wf.settle {x : Lk} (h : x.wf) {now : Int} (hn : momOk now) : (x.settleP now).wf :=
  ⟨h.e.muxP Mxx.wf.bits, Mxx.settle_wf 5 h.m hn, h.port, h.last⟩
theorem Lk.wf.says {x : Lk} (h : x.wf) {now : Int} (hn : momOk now) : (x.says now).wf := by
  unfold Lk.says
  split
  · exact ⟨h.e, h.m, h.port, .inr hn⟩
  · exact h
theorem pickL_len (k : Nat) (s : Inf) : ∀ (i : Nat) (left : Int) (l : List Lk), (pickL k s i left l).length = l.length
  | _, _, [] => rfl
  | i, left, x :: l => by
    unfold pickL
    split
    · simp [pickL_len k s (i + 1) left l]
    · split
      · simp [pickL_len k s (i + 1) (left - 1) l]
      · simp [pickL_len k s (i + 1) left l]
theorem pickL_wf (k : Nat) (s : Inf) : ∀ (i : Nat) (left : Int) (l : List Lk), (∀ x ∈ l, x.wf) → ∀ x ∈ pickL k s i left l, x.wf
  | _, _, [], h => by simp [pickL]
  | i, left, x :: l, h => by
    have hx := h x (List.mem_cons_self ..)
    have hl : ∀ y ∈ l, y.wf := fun y hy => h y (List.mem_cons_of_mem _ hy)
    unfold pickL
    intro y hy
    split at hy
    · rcases List.mem_cons.1 hy with rfl | hy
      · exact hx.pick _
      · exact pickL_wf k s _ _ l hl y hy
    · split at hy
      · rcases List.mem_cons.1 hy with rfl | hy
        · exact hx.pick _
        · exact pickL_wf k s _ _ l hl y hy
      · rcases List.mem_cons.1 hy with rfl | hy
        · exact hx.pick _
        · exact pickL_wf k s _ _ l hl y hy
theorem map_wf {l : List Lk} {f : Lk → Lk} (h : ∀ x ∈ l, x.wf) (hf : ∀ x : Lk, x.wf → (f x).wf) : ∀ x ∈ l.map f, x.wf := by
  intro x hx
  obtain ⟨y, hy, rfl⟩ := List.mem_map.1 hx
  exact hf y (h y hy)
theorem Grp.wf.pick {g : Grp} (h : g.wf) : (pickP g).wf := by
  have hk : ∀ x ∈ g.l.map Lk.keep, x.wf := map_wf h.l fun x hx => hx.pick _
  unfold pickP
  simp only []
  split
  · exact ⟨hk, h.most, by show (g.l.map _).length ≤ 32; rw [List.length_map]; exact h.len⟩
  · exact ⟨pickL_wf _ _ _ _ _ hk, h.most, by show (pickL _ _ _ _ _).length ≤ 32; rw [pickL_len, List.length_map]; exact h.len⟩
theorem Grp.wf.mapL {g : Grp} (h : g.wf) {f : Lk → Lk} (hf : ∀ x : Lk, x.wf → (f x).wf) : ({ g with l := g.l.map f } : Grp).wf :=
  ⟨map_wf h.l hf, h.most, by show (g.l.map _).length ≤ 32; rw [List.length_map]; exact h.len⟩
theorem Grp.wf.ticked {g : Grp} (h : g.wf) {now : Int} (hn : momOk now) : (g.ticked now).wf := by
  have h2 := (h.mapL (f := (·.tickP now)) fun x hx => hx.tick now).pick
  have h3 := h2.mapL (f := (·.settleP now)) fun x hx => hx.settle hn
  refine ⟨h3.l, h.most, h3.len⟩
theorem Grp.wf.tick {g : Grp} (h : g.wf) (now : Int) : (g.tickP now).wf := by
  unfold Grp.tickP
  split
  · rename_i hn
    have h3 := (h.ticked hn).mapL (f := (·.says now)) fun x hx => hx.says hn
    exact ⟨h3.l, h.most, h3.len⟩
  · exact h
theorem Grp.wf.on {g : Grp} (h : g.wf) (port : Int) {f : Lk → Lk} (hf : ∀ x : Lk, x.wf → (f x).wf) : (g.on port f).wf := by
  unfold Grp.on
  split
  · exact h
  · refine ⟨fun x hx => ?_, h.most, by show (g.l.modify _ f).length ≤ 32; rw [List.length_modify]; exact h.len⟩
    have hx : x ∈ g.l.modify _ f := hx
    rw [List.mem_iff_getElem?] at hx
    obtain ⟨k, hk⟩ := hx
    rw [List.getElem?_modify] at hk
    cases e : g.l[k]? with
    | none => rw [e] at hk; cases hk
    | some y =>
      rw [e] at hk
      have hy := h.l y (List.mem_of_getElem? e)
      simp at hk
      split at hk
      · rw [← hk]; exact hf y hy
      · rw [← hk]; exact hy

end Go.Gx
end

section
/- What ends of links tell one another; one end. -/
set_option linter.unusedVariables false
set_option linter.unusedSimpArgs false
set_option maxRecDepth 100000
namespace Go.Gx.S
open Go Go.Gx Go.Proofs
variable {K : Value → World → Prop} {w : World}

/-! ### As keys -/

theorem ctInfo : Try.prog.cellsOf 107 = 11 := by kernel_rfl
theorem inf_enc {d : Nat} {x : Inf} (h : x.ok) : Try.prog.keyLits (d + 3) 107 x.cells = some x.lits := by
  obtain ⟨h0, h1, h2, h3, h4, h5⟩ := h
  refine kl_struct_mk (ls := [[_], x.sys.lits, [_], [_], [_], [_]]) Try.underlying107 (by simp) (by rw [ctInfo]; rfl) ?_
  simp only [List.mapM_cons, List.mapM_nil, ctInt, ctMac, Inf.cells, bind, Option.bind_eq_some_iff, pure, Option.some.injEq, List.drop_succ_cons, List.drop_zero, List.take_succ_cons, List.take_zero]
  exact ⟨_, kl_int_mk uInt h0, _, ⟨_, MacT.enc (d := d) h1, _, ⟨_, kl_int_mk uInt h2, _, ⟨_, kl_int_mk uInt h3, _, ⟨_, kl_int_mk uInt h4, _, ⟨_, kl_int_mk uInt h5, _, rfl, rfl⟩, rfl⟩, rfl⟩, rfl⟩, rfl⟩, rfl⟩
theorem s_eqInf {x y : Inf} (hx : x.ok) (hy : y.ok) (h : K (.bool (decide (x = y))) w) : opS Try.prog (S.binG .eql 107 (.agg x.cells.toArray) (.agg y.cells.toArray)) K w :=
  s_eqG (inf_enc (d := 5) hx) (inf_enc (d := 5) hy) fun q hq => by
    rw [Inf.lits_inj] at hq
    have : q = decide (x = y) := by rw [Bool.eq_iff_iff, hq, decide_eq_true_iff]
    rw [this]; exact h
theorem s_neInf {x y : Inf} (hx : x.ok) (hy : y.ok) (h : K (.bool (!decide (x = y))) w) : opS Try.prog (S.binG .neq 107 (.agg x.cells.toArray) (.agg y.cells.toArray)) K w :=
  s_neqG (inf_enc (d := 5) hx) (inf_enc (d := 5) hy) fun q hq => by
    rw [Inf.lits_inj] at hq
    have : q = decide (x = y) := by rw [Bool.eq_iff_iff, hq, decide_eq_true_iff]
    rw [this]; exact h
theorem s_eqMac {x y : Mac} (hx : x.ok) (hy : y.ok) (h : K (.bool (decide (x = y))) w) : opS Try.prog (S.binG .eql 34 (.agg x.cells.toArray) (.agg y.cells.toArray)) K w :=
  s_eqG (MacT.enc (d := 6) hx) (MacT.enc (d := 6) hy) fun q hq => by
    rw [Mac.lits_inj] at hq
    have : q = decide (x = y) := by rw [Bool.eq_iff_iff, hq, decide_eq_true_iff]
    rw [this]; exact h
theorem s_neMac {x y : Mac} (hx : x.ok) (hy : y.ok) (h : K (.bool (!decide (x = y))) w) : opS Try.prog (S.binG .neq 34 (.agg x.cells.toArray) (.agg y.cells.toArray)) K w :=
  s_neqG (MacT.enc (d := 6) hx) (MacT.enc (d := 6) hy) fun q hq => by
    rw [Mac.lits_inj] at hq
    have : q = decide (x = y) := by rw [Bool.eq_iff_iff, hq, decide_eq_true_iff]
    rw [this]; exact h

theorem zalloc_inf : opS Try.prog (S.alloc 107) K w = K (pt w.heap.size 0) (w.alloc (cellsO Inf.zero.cells 107)) := by
  rw [opS_alloc]; rfl
theorem build_inf0 : opS Try.prog (S.build 107 []) K w = K (.agg Inf.zero.cells.toArray) w := by
  rw [opS_build _ rfl]; rfl
theorem build_inf6 {a c d e f : Int} {m : Mac} : opS Try.prog (S.build 107 [(0, i64 a), (1, .agg m.cells.toArray), (2, i64 c), (3, i64 d), (4, i64 e), (5, i64 f)]) K w = K (.agg (Inf.cells ⟨a, m, c, d, e, f⟩).toArray) w := by
  rw [opS_build _ rfl]; rfl
theorem build_inf3 {a c : Int} {m : Mac} : opS Try.prog (S.build 107 [(0, i64 a), (1, .agg m.cells.toArray), (2, i64 c)]) K w = K (.agg (Inf.cells ⟨a, m, c, 0, 0, 0⟩).toArray) w := by
  rw [opS_build _ rfl]; rfl
theorem build_lcp1 {a : Inf} : opS Try.prog (S.build 123 [(0, .agg a.cells.toArray)]) K w = K (.agg (Lcp.cells ⟨a, Inf.zero, 0⟩).toArray) w := by
  rw [opS_build _ rfl]; rfl
theorem build_lcp2 {a b : Inf} : opS Try.prog (S.build 123 [(0, .agg a.cells.toArray), (1, .agg b.cells.toArray)]) K w = K (.agg (Lcp.cells ⟨a, b, 0⟩).toArray) w := by
  rw [opS_build _ rfl]; rfl
theorem build_tld {n : Int} {l : Lcp} : opS Try.prog (S.build 125 [(0, i64 n), (1, .agg l.cells.toArray)]) K w = K (.agg (Tld.cells ⟨n, l⟩).toArray) w := by
  rw [opS_build _ rfl]; rfl
theorem fld_state {x : Inf} : opS Try.prog (S.fld 107 (.agg x.cells.toArray) 5) K w = K (i64 x.state) w := rfl
attribute [push_cast] zalloc_inf build_inf0 build_inf6 build_inf3 build_lcp1 build_lcp2 build_tld fld_state

theorem zInf_sw (v : Inf) : splice Inf.zero.cells 0 v.cells = v.cells := id rfl
theorem zInf_sw2 (v : Inf) : splice [.int .i64 0, .int .u8 0, .int .u8 0, .int .u8 0, .int .u8 0, .int .u8 0, .int .u8 0, .int .i64 0, .int .i64 0, .int .i64 0, .int .i64 0] 0 v.cells = v.cells := id rfl
attribute [push_cast] zInf_sw zInf_sw2

/-! ### Whether one may be -/

theorem within_spec {v : Value} {l : List Int} {most : Int} (hv : RdE 1 w v (l.map cellI)) (hl : l.length < 2 ^ 62) (h : K (.bool (decide (∀ n ∈ l, wth most n))) w) : CallsR Try.prog 116 #[i64 most, v] K w := by
  apply c116
  unfold p116
  obtain ⟨a, c, rfl⟩ := hv.form
  rw [List.length_map] at hv ⊢
  simp only [push_cast, Nat.reduceAdd, Nat.reduceLeDiff, Nat.reduceLT, Int.reduceToNat, Nat.left_eq_add, Nat.add_eq_left, Nat.add_left_cancel_iff, Nat.reduceEqDiff, Nat.add_assoc, Nat.succ_ne_zero]
  refine jn0 (fun w' => w' = w ∧ ∀ n ∈ l, wth most n) (fun w' ⟨e, e2⟩ => by rw [e]; rw [decide_eq_true e2] at h; exact h) fun j hj => ?_
  refine loop1 (fun n v' w' => ∃ i : Nat, v' = i64 i ∧ n + i = l.length ∧ w' = w ∧ ∀ x ∈ l.take i, wth most x) ?_ l.length ⟨0, rfl, rfl, rfl, by simp⟩
  rintro n v' w' X ⟨i, rfl, hi, rfl, ho⟩ hX
  simp only [push_cast, Nat.reduceAdd, Nat.reduceLeDiff, Nat.reduceLT, Int.reduceToNat, Nat.left_eq_add, Nat.add_eq_left, Nat.add_left_cancel_iff, Nat.reduceEqDiff, Nat.add_assoc, Nat.succ_ne_zero]
  refine br_dec (fun hlt => ?_) fun hge => ?_
  · have hil : i < l.length := by omega
    refine s_iaE hv (by omega) (by simpa using hil) fun b o c _ he => ?_
    simp only [push_cast, Nat.reduceAdd, Nat.reduceLeDiff, Nat.reduceLT, Int.reduceToNat, Nat.left_eq_add, Nat.add_eq_left, Nat.add_left_cancel_iff, Nat.reduceEqDiff, Nat.add_assoc, Nat.succ_ne_zero]
    rw [he.cell0 (by simp [cellI])]
    simp only [push_cast, Nat.reduceAdd, Nat.reduceLeDiff, Nat.reduceLT, Int.reduceToNat, Nat.left_eq_add, Nat.add_eq_left, Nat.add_left_cancel_iff, Nat.reduceEqDiff, Nat.add_assoc, Nat.succ_ne_zero, List.getElem_map, cellI, Int.toNat_natCast]
    have hno : ¬ wth most l[i] → K (.bool false) w' := fun hn => by
      rw [decide_eq_false (fun hh => hn (hh _ (List.getElem_mem hil)))] at h
      exact h
    refine br_dec (fun e => hno fun hh => ?_) fun e => ?_
    · unfold wth at hh; omega
    · refine br_dec (fun e2 => hno fun hh => ?_) fun e2 => ?_
      · unfold wth at hh; omega
      · rw [wrap_i64 (by omega)]
        refine hX (n - 1) _ _ (by omega) ⟨i + 1, by simp, by omega, rfl, fun x hx => ?_⟩
        rw [List.take_add_one, List.getElem?_eq_getElem hil] at hx
        rcases List.mem_append.1 hx with hx | hx
        · exact ho x hx
        · simp at hx
          subst hx
          unfold wth; omega
  · rw [List.take_of_length_le (by omega)] at ho
    exact hj _ ⟨rfl, ho⟩

theorem info_spec {x : Inf} (h : ∀ w', Fr none_ w w' → K (.bool (decide x.right)) w') : CallsR Try.prog 115 #[.agg x.cells.toArray] K w := by
  apply c115
  unfold p115
  have hF : Fr none_ w (w.alloc (cellsO x.cells 107)) := (by repeat' first | with_reducible exact Fr.refl _ _ | with_reducible refine Fr.step_alloc ?_ ?_ | with_reducible refine Fr.step_drew ?_ | with_reducible refine Fr.step_wr ?_ ?_ _ _ | exact rfl | exact Or.inr (by omega) | exact Or.inl rfl | exact Or.inl (Or.inl rfl) | exact Or.inl (Or.inr rfl))
  have h0 : (w.alloc (cellsO x.cells 107)).heap[w.heap.size]? = some (cellsO x.cells 107) := by simp only [push_cast, Nat.reduceAdd, Nat.reduceLeDiff, Nat.reduceLT, Int.reduceToNat, Nat.left_eq_add, Nat.add_eq_left, Nat.add_left_cancel_iff, Nat.reduceEqDiff, Nat.add_assoc, Nat.succ_ne_zero]
  simp only [opS_box, cells_agg, alloc_cellsO]
  generalize w.alloc (cellsO x.cells 107) = W at *
  simp only [push_cast, Nat.reduceAdd, Nat.reduceLeDiff, Nat.reduceLT, Int.reduceToNat, Nat.left_eq_add, Nat.add_eq_left, Nat.add_left_cancel_iff, Nat.reduceEqDiff, Nat.add_assoc, Nat.succ_ne_zero, h0]
  refine s_bsN (z := .int .i64 0) [i64 x.prio, i64 x.key, i64 x.pprio, i64 x.port] (by show 0 < 4; decide) (by decide) (by show 4 * 1 ≤ 2 ^ 24; decide) rfl (by simp [Value.cells]) fun v w2 hv hF2 _ => ?_
  have h2 := hF2.heap h0 fun h => h
  simp only [push_cast, Nat.reduceAdd, Nat.reduceLeDiff, Nat.reduceLT, Int.reduceToNat, Nat.left_eq_add, Nat.add_eq_left, Nat.add_left_cancel_iff, Nat.reduceEqDiff, Nat.add_assoc, Nat.succ_ne_zero]
  refine within_spec (l := [x.prio, x.key, x.pprio, x.port]) hv.rd (by show 4 < 2 ^ 62; decide) ?_
  simp only [push_cast, Nat.reduceAdd, Nat.reduceLeDiff, Nat.reduceLT, Int.reduceToNat, Nat.left_eq_add, Nat.add_eq_left, Nat.add_left_cancel_iff, Nat.reduceEqDiff, Nat.add_assoc, Nat.succ_ne_zero]
  refine br_dec (fun e => ?_) fun e => ?_
  · simp only [push_cast, Nat.reduceAdd, Nat.reduceLeDiff, Nat.reduceLT, Int.reduceToNat, Nat.left_eq_add, Nat.add_eq_left, Nat.add_left_cancel_iff, Nat.reduceEqDiff, Nat.add_assoc, Nat.succ_ne_zero, h2]
    refine s_bsN (z := .int .i64 0) [i64 x.state] (by show 0 < 1; decide) (by decide) (by show 1 * 1 ≤ 2 ^ 24; decide) rfl (by simp [Value.cells]) fun v3 w3 hv3 hF3 _ => ?_
    simp only [push_cast, Nat.reduceAdd, Nat.reduceLeDiff, Nat.reduceLT, Int.reduceToNat, Nat.left_eq_add, Nat.add_eq_left, Nat.add_left_cancel_iff, Nat.reduceEqDiff, Nat.add_assoc, Nat.succ_ne_zero]
    refine within_spec (l := [x.state]) hv3.rd (by show 1 < 2 ^ 62; decide) ?_
    have e2 : decide (∀ n ∈ [x.state], wth 255 n) = decide x.right := by
      rw [decide_eq_decide]
      unfold Inf.right
      simp only [List.mem_cons, List.not_mem_nil, or_false, forall_eq_or_imp, forall_eq] at e ⊢
      exact ⟨fun h => ⟨e.1, e.2.1, e.2.2.1, e.2.2.2, h⟩, fun h => h.2.2.2.2⟩
    rw [e2]
    exact h _ ((hF.trans hF2).trans hF3)
  · have e2 : decide x.right = false := by
      refine decide_eq_false fun hr => e ?_
      simp only [List.mem_cons, List.not_mem_nil, or_false, forall_eq_or_imp, forall_eq]
      exact ⟨hr.1, hr.2.1, hr.2.2.1, hr.2.2.2.1⟩
    have := h _ (hF.trans hF2)
    rw [e2] at this
    exact this

theorem right_spec {x : Lcp} (h : ∀ w', Fr none_ w w' → K (.bool (decide x.right)) w') : CallsR Try.prog 80 #[.agg x.cells.toArray] K w := by
  apply c80
  unfold p80
  have hF : Fr none_ w (w.alloc (cellsO x.cells 123)) := (by repeat' first | with_reducible exact Fr.refl _ _ | with_reducible refine Fr.step_alloc ?_ ?_ | with_reducible refine Fr.step_drew ?_ | with_reducible refine Fr.step_wr ?_ ?_ _ _ | exact rfl | exact Or.inr (by omega) | exact Or.inl rfl | exact Or.inl (Or.inl rfl) | exact Or.inl (Or.inr rfl))
  have h0 : (w.alloc (cellsO x.cells 123)).heap[w.heap.size]? = some (cellsO x.cells 123) := by simp only [push_cast, Nat.reduceAdd, Nat.reduceLeDiff, Nat.reduceLT, Int.reduceToNat, Nat.left_eq_add, Nat.add_eq_left, Nat.add_left_cancel_iff, Nat.reduceEqDiff, Nat.add_assoc, Nat.succ_ne_zero]
  simp only [opS_box, cells_agg, alloc_cellsO]
  generalize w.alloc (cellsO x.cells 123) = W at *
  have hno : ∀ w', Fr none_ W w' → ¬ x.right → K (.bool false) w' := fun w' hF' hn => by
    have := h _ (hF.trans hF')
    rw [decide_eq_false hn] at this
    exact this
  simp only [push_cast, Nat.reduceAdd, Nat.reduceLeDiff, Nat.reduceLT, Int.reduceToNat, Nat.left_eq_add, Nat.add_eq_left, Nat.add_left_cancel_iff, Nat.reduceEqDiff, Nat.add_assoc, Nat.succ_ne_zero, h0]
  refine info_spec fun w2 hF2 => ?_
  have h2 := hF2.heap h0 fun h => h
  simp only [push_cast, Nat.reduceAdd, Nat.reduceLeDiff, Nat.reduceLT, Int.reduceToNat, Nat.left_eq_add, Nat.add_eq_left, Nat.add_left_cancel_iff, Nat.reduceEqDiff, Nat.add_assoc, Nat.succ_ne_zero]
  refine br_dec (fun e => ?_) fun e => hno _ hF2 fun hr => e hr.1
  simp only [push_cast, Nat.reduceAdd, Nat.reduceLeDiff, Nat.reduceLT, Int.reduceToNat, Nat.left_eq_add, Nat.add_eq_left, Nat.add_left_cancel_iff, Nat.reduceEqDiff, Nat.add_assoc, Nat.succ_ne_zero, h2]
  refine info_spec fun w3 hF3 => ?_
  have h3 := hF3.heap h2 fun h => h
  simp only [push_cast, Nat.reduceAdd, Nat.reduceLeDiff, Nat.reduceLT, Int.reduceToNat, Nat.left_eq_add, Nat.add_eq_left, Nat.add_left_cancel_iff, Nat.reduceEqDiff, Nat.add_assoc, Nat.succ_ne_zero]
  refine br_dec (fun e2 => ?_) fun e2 => hno _ (hF2.trans hF3) fun hr => e2 hr.2.1
  simp only [push_cast, Nat.reduceAdd, Nat.reduceLeDiff, Nat.reduceLT, Int.reduceToNat, Nat.left_eq_add, Nat.add_eq_left, Nat.add_left_cancel_iff, Nat.reduceEqDiff, Nat.add_assoc, Nat.succ_ne_zero, h3]
  refine s_bsN (z := .int .i64 0) [i64 x.delay] (by show 0 < 1; decide) (by decide) (by show 1 * 1 ≤ 2 ^ 24; decide) rfl (by simp [Value.cells]) fun v4 w4 hv4 hF4 _ => ?_
  simp only [push_cast, Nat.reduceAdd, Nat.reduceLeDiff, Nat.reduceLT, Int.reduceToNat, Nat.left_eq_add, Nat.add_eq_left, Nat.add_left_cancel_iff, Nat.reduceEqDiff, Nat.add_assoc, Nat.succ_ne_zero]
  refine within_spec (l := [x.delay]) hv4.rd (by show 1 < 2 ^ 62; decide) ?_
  have e3 : decide (∀ n ∈ [x.delay], wth 65535 n) = decide x.right := by
    rw [decide_eq_decide]
    unfold Lcp.right
    simp only [List.mem_cons, List.not_mem_nil, or_false, forall_eq_or_imp, forall_eq]
    exact ⟨fun h => ⟨e, e2, h⟩, fun h => h.2.2⟩
  rw [e3]
  exact h _ (((hF.trans hF2).trans hF3).trans hF4)

/-! ### What one knows of the other one -/

theorem Inf.zs_ok {x : Inf} (h : x.right) (hs : x.sys.ok) : ({ x with state := 0 } : Inf).ok := by
  have := h.ok hs
  exact ⟨this.1, this.2.1, this.2.2.1, this.2.2.2.1, this.2.2.2.2.1, isI_iff.2 (by show _ ≤ (0 : Int) ∧ (0 : Int) ≤ _; decide)⟩

theorem knows_spec {p a : Inf} (hp : p.right) (hps : p.sys.ok) (ha : a.right) (has : a.sys.ok) (h : ∀ w', Fr none_ w w' → K (.bool (knowsP p a)) w') : CallsR Try.prog 128 #[.agg p.cells.toArray, .agg a.cells.toArray] K w := by
  apply c128
  unfold p128
  have hF : Fr none_ w ((w.alloc (cellsO p.cells 107)).alloc (cellsO a.cells 107)) := (by repeat' first | with_reducible exact Fr.refl _ _ | with_reducible refine Fr.step_alloc ?_ ?_ | with_reducible refine Fr.step_drew ?_ | with_reducible refine Fr.step_wr ?_ ?_ _ _ | exact rfl | exact Or.inr (by omega) | exact Or.inl rfl | exact Or.inl (Or.inl rfl) | exact Or.inl (Or.inr rfl))
  have h0 : ((w.alloc (cellsO p.cells 107)).alloc (cellsO a.cells 107)).heap[w.heap.size]? = some (cellsO p.cells 107) := by simp only [push_cast, Nat.reduceAdd, Nat.reduceLeDiff, Nat.reduceLT, Int.reduceToNat, Nat.left_eq_add, Nat.add_eq_left, Nat.add_left_cancel_iff, Nat.reduceEqDiff, Nat.add_assoc, Nat.succ_ne_zero]
  have h1 : ((w.alloc (cellsO p.cells 107)).alloc (cellsO a.cells 107)).heap[w.heap.size + 1]? = some (cellsO a.cells 107) := by simp only [push_cast, Nat.reduceAdd, Nat.reduceLeDiff, Nat.reduceLT, Int.reduceToNat, Nat.left_eq_add, Nat.add_eq_left, Nat.add_left_cancel_iff, Nat.reduceEqDiff, Nat.add_assoc, Nat.succ_ne_zero]
  simp only [opS_box, cells_agg, alloc_cellsO, size_alloc]
  generalize ((w.alloc (cellsO p.cells 107)).alloc (cellsO a.cells 107)) = W at *
  have hne : w.heap.size ≠ w.heap.size + 1 := by omega
  simp only [push_cast, Nat.reduceAdd, Nat.reduceLeDiff, Nat.reduceLT, Int.reduceToNat, Nat.left_eq_add, Nat.add_eq_left, Nat.add_left_cancel_iff, Nat.reduceEqDiff, Nat.add_assoc, Nat.succ_ne_zero, h0, h1, hne]
  have hF2 : Fr none_ w (wr (wr W w.heap.size 10 [i64 0]) (w.heap.size + 1) 10 [i64 0]) := (hF.step_wr (.inr (by omega)) _ _).step_wr (.inr (by omega)) _ _
  have h' := h _ hF2
  unfold knowsP at h'
  refine s_eqInf (Inf.zs_ok hp hps) (Inf.zs_ok ha has) ?_
  simp only [push_cast, Nat.reduceAdd, Nat.reduceLeDiff, Nat.reduceLT, Int.reduceToNat, Nat.left_eq_add, Nat.add_eq_left, Nat.add_left_cancel_iff, Nat.reduceEqDiff, Nat.add_assoc, Nat.succ_ne_zero]
  refine br_dec (fun e => ?_) fun e => ?_
  · rw [decide_eq_true e, Bool.true_and] at h'
    refine br_dec (fun e2 => ?_) fun e2 => ?_
    · rw [decide_eq_true e2, Bool.true_and] at h'
      exact h'
    · rw [decide_eq_false e2, Bool.false_and] at h'
      exact h'
  · rw [decide_eq_false e, Bool.false_and, Bool.false_and] at h'
    exact h'

/-! ### An end -/

def EdpAt (w : World) (b : Nat) (x : Edp) : Prop := w.heap[b]? = some (cellsO x.cells 149)

theorem moment_spec {n : Int} (h : K (.bool (decide (momOk n))) w) : CallsR Try.prog 82 #[i64 n] K w := by
  apply c82
  unfold p82
  simp only [push_cast, Nat.reduceAdd, Nat.reduceLeDiff, Nat.reduceLT, Int.reduceToNat, Nat.left_eq_add, Nat.add_eq_left, Nat.add_left_cancel_iff, Nat.reduceEqDiff, Nat.add_assoc, Nat.succ_ne_zero]
  refine br_dec (fun e => ?_) fun e => ?_
  · have : decide (momOk n) = decide (n ≤ 1099511627776) := by
      rw [decide_eq_decide]; exact ⟨fun h => h.2, fun h => ⟨e, h⟩⟩
    rw [this] at h
    exact h
  · have : decide (momOk n) = false := decide_eq_false fun hh => e hh.1
    rw [this] at h
    exact h

theorem expire_spec {b : Nat} {x : Edp} {now : Int} (h : EdpAt w b x)
    (hk : ∀ w', EdpAt w' b (x.expire now) → Fr (fun y => y = b) w w' → K (.tuple #[]) w') : CallsR Try.prog 83 #[pt b 0, i64 now] K w := by
  apply c83
  unfold p83
  unfold EdpAt at h hk
  simp only [push_cast, Nat.reduceAdd, Nat.reduceLeDiff, Nat.reduceLT, Int.reduceToNat, Nat.left_eq_add, Nat.add_eq_left, Nat.add_left_cancel_iff, Nat.reduceEqDiff, Nat.add_assoc, Nat.succ_ne_zero, h]
  exact hk _ (by simp only [push_cast, Nat.reduceAdd, Nat.reduceLeDiff, Nat.reduceLT, Int.reduceToNat, Nat.left_eq_add, Nat.add_eq_left, Nat.add_left_cancel_iff, Nat.reduceEqDiff, Nat.add_assoc, Nat.succ_ne_zero, h]; rfl) (by repeat' first | with_reducible exact Fr.refl _ _ | with_reducible refine Fr.step_alloc ?_ ?_ | with_reducible refine Fr.step_drew ?_ | with_reducible refine Fr.step_wr ?_ ?_ _ _ | exact rfl | exact Or.inr (by omega) | exact Or.inl rfl | exact Or.inl (Or.inl rfl) | exact Or.inl (Or.inr rfl))

theorem enable_spec {b : Nat} {x : Edp} {is : Bool} {now : Int} (h : EdpAt w b x)
    (hk : ∀ w', EdpAt w' b (x.enableP is now) → Fr (fun y => y = b) w w' → K (i64 (momE now)) w') : CallsR Try.prog 54 #[pt b 0, .bool is, i64 now] K w := by
  apply c54
  unfold p54
  simp only [push_cast, Nat.reduceAdd, Nat.reduceLeDiff, Nat.reduceLT, Int.reduceToNat, Nat.left_eq_add, Nat.add_eq_left, Nat.add_left_cancel_iff, Nat.reduceEqDiff, Nat.add_assoc, Nat.succ_ne_zero]
  refine moment_spec ?_
  unfold Edp.enableP momE at hk
  by_cases hm : momOk now
  · rw [if_pos hm] at hk
    simp only [if_pos hm] at hk
    rw [decide_eq_true hm]
    simp only [push_cast, Nat.reduceAdd, Nat.reduceLeDiff, Nat.reduceLT, Int.reduceToNat, Nat.left_eq_add, Nat.add_eq_left, Nat.add_left_cancel_iff, Nat.reduceEqDiff, Nat.add_assoc, Nat.succ_ne_zero]
    cases is with
    | false =>
      simp only [push_cast, Nat.reduceAdd, Nat.reduceLeDiff, Nat.reduceLT, Int.reduceToNat, Nat.left_eq_add, Nat.add_eq_left, Nat.add_left_cancel_iff, Nat.reduceEqDiff, Nat.add_assoc, Nat.succ_ne_zero]
      rw [if_pos rfl] at hk
      unfold EdpAt at h hk
      simp only [push_cast, Nat.reduceAdd, Nat.reduceLeDiff, Nat.reduceLT, Int.reduceToNat, Nat.left_eq_add, Nat.add_eq_left, Nat.add_left_cancel_iff, Nat.reduceEqDiff, Nat.add_assoc, Nat.succ_ne_zero, h]
      exact hk _ (by simp only [push_cast, Nat.reduceAdd, Nat.reduceLeDiff, Nat.reduceLT, Int.reduceToNat, Nat.left_eq_add, Nat.add_eq_left, Nat.add_left_cancel_iff, Nat.reduceEqDiff, Nat.add_assoc, Nat.succ_ne_zero, h]; rfl) (by repeat' first | with_reducible exact Fr.refl _ _ | with_reducible refine Fr.step_alloc ?_ ?_ | with_reducible refine Fr.step_drew ?_ | with_reducible refine Fr.step_wr ?_ ?_ _ _ | exact rfl | exact Or.inr (by omega) | exact Or.inl rfl | exact Or.inl (Or.inl rfl) | exact Or.inl (Or.inr rfl))
    | true =>
      simp only [push_cast, Nat.reduceAdd, Nat.reduceLeDiff, Nat.reduceLT, Int.reduceToNat, Nat.left_eq_add, Nat.add_eq_left, Nat.add_left_cancel_iff, Nat.reduceEqDiff, Nat.add_assoc, Nat.succ_ne_zero]
      rw [if_neg (by decide)] at hk
      have h' : w.heap[b]? = some (cellsO x.cells 149) := h
      simp only [push_cast, Nat.reduceAdd, Nat.reduceLeDiff, Nat.reduceLT, Int.reduceToNat, Nat.left_eq_add, Nat.add_eq_left, Nat.add_left_cancel_iff, Nat.reduceEqDiff, Nat.add_assoc, Nat.succ_ne_zero, h']
      refine br_dec (fun e => ?_) fun e => ?_
      · rw [if_pos e] at hk
        refine expire_spec h fun w2 h2 hF2 => ?_
        exact hk _ h2 hF2
      · rw [if_neg e] at hk
        exact hk _ h (Fr.refl _ _)
  · rw [if_neg hm] at hk
    simp only [if_neg hm] at hk
    rw [decide_eq_false hm]
    simp only [push_cast, Nat.reduceAdd, Nat.reduceLeDiff, Nat.reduceLT, Int.reduceToNat, Nat.left_eq_add, Nat.add_eq_left, Nat.add_left_cancel_iff, Nat.reduceEqDiff, Nat.add_assoc, Nat.succ_ne_zero]
    exact hk _ h (Fr.refl _ _)

theorem actor_spec {b : Nat} {x : Edp} (h : EdpAt w b x) (hk : ∀ w', Fr none_ w w' → K (.agg x.actor.cells.toArray) w') : CallsR Try.prog 59 #[pt b 0] K w := by
  apply c59
  unfold p59
  have h : w.heap[b]? = some (cellsO x.cells 149) := h
  have hb := lt_of_heap h
  have hb1 : b ≠ w.heap.size := by omega
  have hb2 : b ≠ w.heap.size + 1 := by omega
  have hne : w.heap.size ≠ w.heap.size + 1 := by omega
  simp only [push_cast, Nat.reduceAdd, Nat.reduceLeDiff, Nat.reduceLT, Int.reduceToNat, Nat.left_eq_add, Nat.add_eq_left, Nat.add_left_cancel_iff, Nat.reduceEqDiff, Nat.add_assoc, Nat.succ_ne_zero, h, hb1, hb2, hne]
  unfold Edp.actor Edp.actorS at hk
  refine br_dec (fun e => ?_) fun e => ?_
  · rw [if_pos e] at hk
    exact hk _ (by repeat' first | with_reducible exact Fr.refl _ _ | with_reducible refine Fr.step_alloc ?_ ?_ | with_reducible refine Fr.step_drew ?_ | with_reducible refine Fr.step_wr ?_ ?_ _ _ | exact rfl | exact Or.inr (by omega) | exact Or.inl rfl | exact Or.inl (Or.inl rfl) | exact Or.inl (Or.inr rfl))
  · rw [if_neg e] at hk
    refine br_dec (fun e2 => ?_) fun e2 => ?_
    · rw [if_pos e2] at hk
      exact hk _ (by repeat' first | with_reducible exact Fr.refl _ _ | with_reducible refine Fr.step_alloc ?_ ?_ | with_reducible refine Fr.step_drew ?_ | with_reducible refine Fr.step_wr ?_ ?_ _ _ | exact rfl | exact Or.inr (by omega) | exact Or.inl rfl | exact Or.inl (Or.inl rfl) | exact Or.inl (Or.inr rfl))
    · rw [if_neg e2] at hk
      exact hk _ (by repeat' first | with_reducible exact Fr.refl _ _ | with_reducible refine Fr.step_alloc ?_ ?_ | with_reducible refine Fr.step_drew ?_ | with_reducible refine Fr.step_wr ?_ ?_ _ _ | exact rfl | exact Or.inr (by omega) | exact Or.inl rfl | exact Or.inl (Or.inl rfl) | exact Or.inl (Or.inr rfl))

theorem partner_spec {b : Nat} {x : Edp} (h : EdpAt w b x) (hk : ∀ w', Fr none_ w w' → K (.agg x.partner.cells.toArray) w') : CallsR Try.prog 60 #[pt b 0] K w := by
  apply c60
  unfold p60
  have h : w.heap[b]? = some (cellsO x.cells 149) := h
  have hb := lt_of_heap h
  have hb1 : b ≠ w.heap.size := by omega
  simp only [push_cast, Nat.reduceAdd, Nat.reduceLeDiff, Nat.reduceLT, Int.reduceToNat, Nat.left_eq_add, Nat.add_eq_left, Nat.add_left_cancel_iff, Nat.reduceEqDiff, Nat.add_assoc, Nat.succ_ne_zero, h, hb1]
  exact hk _ (by repeat' first | with_reducible exact Fr.refl _ _ | with_reducible refine Fr.step_alloc ?_ ?_ | with_reducible refine Fr.step_drew ?_ | with_reducible refine Fr.step_wr ?_ ?_ _ _ | exact rfl | exact Or.inr (by omega) | exact Or.inl rfl | exact Or.inl (Or.inl rfl) | exact Or.inl (Or.inr rfl))

theorem state_spec {b : Nat} {x : Edp} (h : EdpAt w b x) (hk : K (i64 x.state) w) : CallsR Try.prog 53 #[pt b 0] K w := by
  apply c53
  unfold p53
  have h : w.heap[b]? = some (cellsO x.cells 149) := h
  simp only [push_cast, Nat.reduceAdd, Nat.reduceLeDiff, Nat.reduceLT, Int.reduceToNat, Nat.left_eq_add, Nat.add_eq_left, Nat.add_left_cancel_iff, Nat.reduceEqDiff, Nat.add_assoc, Nat.succ_ne_zero, h]
  exact hk

theorem mux_clr {m : Int} (h : m = 0 ∨ m = 8 ∨ m = 24 ∨ m = 56) : ¬ m < 0 ∧ bClr m 56 = 0 := by
  rcases h with rfl | rfl | rfl | rfl <;> decide +kernel

theorem emux_spec {b : Nat} {x : Edp} {m : Int} (h : EdpAt w b x) (hm : m = 0 ∨ m = 8 ∨ m = 24 ∨ m = 56) (hk : ∀ w', EdpAt w' b (x.muxP m) → Fr (fun y => y = b) w w' → K (i64 0) w') : CallsR Try.prog 91 #[pt b 0, i64 m] K w := by
  apply c91
  unfold p91
  have h : w.heap[b]? = some (cellsO x.cells 149) := h
  obtain ⟨m1, m2⟩ := mux_clr hm
  simp only [push_cast, Nat.reduceAdd, Nat.reduceLeDiff, Nat.reduceLT, Int.reduceToNat, Nat.left_eq_add, Nat.add_eq_left, Nat.add_left_cancel_iff, Nat.reduceEqDiff, Nat.add_assoc, Nat.succ_ne_zero]
  refine br_no m1 ?_
  simp only [push_cast, Nat.reduceAdd, Nat.reduceLeDiff, Nat.reduceLT, Int.reduceToNat, Nat.left_eq_add, Nat.add_eq_left, Nat.add_left_cancel_iff, Nat.reduceEqDiff, Nat.add_assoc, Nat.succ_ne_zero, m2, bne_self_eq_false, br_false, h]
  unfold EdpAt at hk
  exact hk _ (by simp only [push_cast, Nat.reduceAdd, Nat.reduceLeDiff, Nat.reduceLT, Int.reduceToNat, Nat.left_eq_add, Nat.add_eq_left, Nat.add_left_cancel_iff, Nat.reduceEqDiff, Nat.add_assoc, Nat.succ_ne_zero, h]; rfl) (by repeat' first | with_reducible exact Fr.refl _ _ | with_reducible refine Fr.step_alloc ?_ ?_ | with_reducible refine Fr.step_drew ?_ | with_reducible refine Fr.step_wr ?_ ?_ _ _ | exact rfl | exact Or.inr (by omega) | exact Or.inl rfl | exact Or.inl (Or.inl rfl) | exact Or.inl (Or.inr rfl))

theorem wait_spec {b : Nat} {x : Edp} (h : EdpAt w b x) (hk : K (i64 x.wait) w) : CallsR Try.prog 84 #[pt b 0] K w := by
  apply c84
  unfold p84
  have h : w.heap[b]? = some (cellsO x.cells 149) := h
  unfold Edp.wait at hk
  simp only [push_cast, Nat.reduceAdd, Nat.reduceLeDiff, Nat.reduceLT, Int.reduceToNat, Nat.left_eq_add, Nat.add_eq_left, Nat.add_left_cancel_iff, Nat.reduceEqDiff, Nat.add_assoc, Nat.succ_ne_zero, h]
  refine br_dec (fun e => ?_) fun e => ?_
  · rw [if_pos (.inl e)] at hk; exact hk
  · skip
    refine br_intro (fun e2 => ?_) fun e2 => ?_
    · rw [if_pos (.inr (by simpa using e2))] at hk; exact hk
    · rw [if_neg (fun hh => hh.elim e (by simpa using e2))] at hk; exact hk

theorem etick_spec {b : Nat} {x : Edp} {now : Int} (h : EdpAt w b x) (hx : x.wf)
    (hk : ∀ w', EdpAt w' b (x.tickP now) → Fr (fun y => y = b) w w' → K (i64 (momE now)) w') : CallsR Try.prog 55 #[pt b 0, i64 now] K w := by
  apply c55
  unfold p55
  simp only [push_cast, Nat.reduceAdd, Nat.reduceLeDiff, Nat.reduceLT, Int.reduceToNat, Nat.left_eq_add, Nat.add_eq_left, Nat.add_left_cancel_iff, Nat.reduceEqDiff, Nat.add_assoc, Nat.succ_ne_zero]
  refine moment_spec ?_
  unfold Edp.tickP momE at hk
  by_cases hm : momOk now
  · rw [if_pos hm] at hk
    simp only [if_pos hm] at hk
    rw [decide_eq_true hm]
    simp only [push_cast, Nat.reduceAdd, Nat.reduceLeDiff, Nat.reduceLT, Int.reduceToNat, Nat.left_eq_add, Nat.add_eq_left, Nat.add_left_cancel_iff, Nat.reduceEqDiff, Nat.add_assoc, Nat.succ_ne_zero]
    have hwr : IntKind.i64.wrap (now - x.from_) = now - x.from_ := by
      have := hx.from_
      unfold momOk at hm this
      exact wrap_i64 (by omega)
    have hF0 : Fr (fun y => y = b) w w.drew := (by repeat' first | with_reducible exact Fr.refl _ _ | with_reducible refine Fr.step_alloc ?_ ?_ | with_reducible refine Fr.step_drew ?_ | with_reducible refine Fr.step_wr ?_ ?_ _ _ | exact rfl | exact Or.inr (by omega) | exact Or.inl rfl | exact Or.inl (Or.inl rfl) | exact Or.inl (Or.inr rfl))
    have hd : EdpAt w.drew b x := h
    have h' : w.drew.heap[b]? = some (cellsO x.cells 149) := h
    refine jn0 (fun W => EdpAt W b x ∧ Fr (fun y => y = b) w W ∧ ¬ now - x.from_ < x.wait) ?_ fun j hj => ?_
    · rintro W ⟨hd, hF0, hw⟩
      have h' : W.heap[b]? = some (cellsO x.cells 149) := hd
      rw [if_neg hw] at hk
      simp only [push_cast, Nat.reduceAdd, Nat.reduceLeDiff, Nat.reduceLT, Int.reduceToNat, Nat.left_eq_add, Nat.add_eq_left, Nat.add_left_cancel_iff, Nat.reduceEqDiff, Nat.add_assoc, Nat.succ_ne_zero, h']
      refine br_dec (fun e => ?_) fun e => ?_
      · rw [if_pos e] at hk
        refine expire_spec hd fun w2 h2 hF2 => hk _ h2 (hF0.trans hF2)
      · rw [if_neg e] at hk
        refine br_dec (fun e2 => ?_) fun e2 => ?_
        · rw [if_pos e2] at hk
          unfold EdpAt at hk
          exact hk _ (by simp only [push_cast, Nat.reduceAdd, Nat.reduceLeDiff, Nat.reduceLT, Int.reduceToNat, Nat.left_eq_add, Nat.add_eq_left, Nat.add_left_cancel_iff, Nat.reduceEqDiff, Nat.add_assoc, Nat.succ_ne_zero, h']) ((hF0.step_wr (.inl rfl) _ _).step_wr (.inl rfl) _ _)
        · rw [if_neg e2] at hk
          exact hk _ hd hF0
    · simp only [push_cast, Nat.reduceAdd, Nat.reduceLeDiff, Nat.reduceLT, Int.reduceToNat, Nat.left_eq_add, Nat.add_eq_left, Nat.add_left_cancel_iff, Nat.reduceEqDiff, Nat.add_assoc, Nat.succ_ne_zero, h']
      refine allW_intro ?_ ?_
      · simp only [push_cast, Nat.reduceAdd, Nat.reduceLeDiff, Nat.reduceLT, Int.reduceToNat, Nat.left_eq_add, Nat.add_eq_left, Nat.add_left_cancel_iff, Nat.reduceEqDiff, Nat.add_assoc, Nat.succ_ne_zero, h', hwr]
        refine wait_spec hd ?_
        simp only [push_cast, Nat.reduceAdd, Nat.reduceLeDiff, Nat.reduceLT, Int.reduceToNat, Nat.left_eq_add, Nat.add_eq_left, Nat.add_left_cancel_iff, Nat.reduceEqDiff, Nat.add_assoc, Nat.succ_ne_zero]
        refine br_dec (fun e => ?_) fun e => hj _ ⟨hd, hF0, e⟩
        rw [if_pos e] at hk
        exact hk _ hd hF0
      · refine wait_spec hd ?_
        simp only [push_cast, Nat.reduceAdd, Nat.reduceLeDiff, Nat.reduceLT, Int.reduceToNat, Nat.left_eq_add, Nat.add_eq_left, Nat.add_left_cancel_iff, Nat.reduceEqDiff, Nat.add_assoc, Nat.succ_ne_zero, h', hwr]
        refine br_dec (fun e => ?_) fun e => hj _ ⟨hd, hF0, e⟩
        rw [if_pos e] at hk
        exact hk _ hd hF0
  · rw [if_neg hm] at hk
    simp only [if_neg hm] at hk
    rw [decide_eq_false hm]
    simp only [push_cast, Nat.reduceAdd, Nat.reduceLeDiff, Nat.reduceLT, Int.reduceToNat, Nat.left_eq_add, Nat.add_eq_left, Nat.add_left_cancel_iff, Nat.reduceEqDiff, Nat.add_assoc, Nat.succ_ne_zero]
    exact hk _ h (Fr.refl _ _)

theorem bare_spec {x : Inf} (hk : ∀ w', Fr none_ w w' → K (.agg (bareP x).cells.toArray) w') : CallsR Try.prog 129 #[.agg x.cells.toArray] K w := by
  apply c129
  unfold p129
  have hne : w.heap.size ≠ w.heap.size + 1 := by omega
  simp only [push_cast, Nat.reduceAdd, Nat.reduceLeDiff, Nat.reduceLT, Int.reduceToNat, Nat.left_eq_add, Nat.add_eq_left, Nat.add_left_cancel_iff, Nat.reduceEqDiff, Nat.add_assoc, Nat.succ_ne_zero, hne]
  exact hk _ (by repeat' first | with_reducible exact Fr.refl _ _ | with_reducible refine Fr.step_alloc ?_ ?_ | with_reducible refine Fr.step_drew ?_ | with_reducible refine Fr.step_wr ?_ ?_ _ _ | exact rfl | exact Or.inr (by omega) | exact Or.inl rfl | exact Or.inl (Or.inl rfl) | exact Or.inl (Or.inr rfl))

theorem bare_ok {x : Inf} (h : x.right) (hs : x.sys.ok) : (bareP x).ok := (h.setS (st_and15 h.st)).ok hs

end Go.Gx.S
end

section
/- An end hears the other one; a new one. -/
set_option linter.unusedVariables false
set_option linter.unusedSimpArgs false
set_option maxRecDepth 100000
namespace Go.Gx.S
open Go Go.Gx Go.Proofs
variable {K : Value → World → Prop} {w : World}

theorem Lcp.d0 (l : Lcp) : (l.cells.drop 0).take 11 = l.actor.cells := id rfl
theorem Lcp.d1 (l : Lcp) : (l.cells.drop 11).take 11 = l.partner.cells := id rfl

theorem take_spec {b : Nat} {x : Edp} {l : Lcp} {now : Int} (h : EdpAt w b x) (hx : x.wf) (hl : l.ok)
    (hk : ∀ w', EdpAt w' b (x.takeP l now) → Fr (fun y => y = b) w w' → K (.tuple #[.bool (x.takeT l now), i64 (x.takeE l now)]) w') : CallsR Try.prog 100 #[pt b 0, .agg l.cells.toArray, i64 now] K w := by
  apply c100
  unfold p100
  have hbl := lt_of_heap (show w.heap[b]? = some (cellsO x.cells 149) from h)
  have hF1 : Fr none_ w (w.alloc (cellsO l.cells 123)) := (by repeat' first | with_reducible exact Fr.refl _ _ | with_reducible refine Fr.step_alloc ?_ ?_ | with_reducible refine Fr.step_drew ?_ | with_reducible refine Fr.step_wr ?_ ?_ _ _ | exact rfl | exact Or.inr (by omega) | exact Or.inl rfl | exact Or.inl (Or.inl rfl) | exact Or.inl (Or.inr rfl))
  have q1 : (w.alloc (cellsO l.cells 123)).heap[w.heap.size]? = some (cellsO l.cells 123) := by simp only [push_cast, Nat.reduceAdd, Nat.reduceLeDiff, Nat.reduceLT, Int.reduceToNat, Nat.left_eq_add, Nat.add_eq_left, Nat.add_left_cancel_iff, Nat.reduceEqDiff, Nat.add_assoc, Nat.succ_ne_zero]
  simp only [opS_box, cells_agg, alloc_cellsO]
  have hE1 : EdpAt (w.alloc (cellsO l.cells 123)) b x := hF1.heap h fun h => h
  have hs1 : (w.alloc (cellsO l.cells 123)).heap.size = w.heap.size + 1 := size_alloc _ _
  generalize w.alloc (cellsO l.cells 123) = W1 at *
  generalize w.heap.size = p1 at *
  simp only [push_cast, Nat.reduceAdd, Nat.reduceLeDiff, Nat.reduceLT, Int.reduceToNat, Nat.left_eq_add, Nat.add_eq_left, Nat.add_left_cancel_iff, Nat.reduceEqDiff, Nat.add_assoc, Nat.succ_ne_zero]
  refine actor_spec hE1 fun W2 hF2 => ?_
  have q2 := hF2.heap q1 fun h => h
  have hE2 : EdpAt W2 b x := hF2.heap hE1 fun h => h
  have hs2 := hF2.size
  obtain ⟨hme, hmes⟩ := hx.actor
  have hmeok := hme.ok hmes
  have hF3 : Fr none_ W2 (wr (W2.alloc (cellsO Inf.zero.cells 107)) W2.heap.size 0 x.actor.cells) := (by repeat' first | with_reducible exact Fr.refl _ _ | with_reducible refine Fr.step_alloc ?_ ?_ | with_reducible refine Fr.step_drew ?_ | with_reducible refine Fr.step_wr ?_ ?_ _ _ | exact rfl | exact Or.inr (by omega) | exact Or.inl rfl | exact Or.inl (Or.inl rfl) | exact Or.inl (Or.inr rfl))
  have q3 : (wr (W2.alloc (cellsO Inf.zero.cells 107)) W2.heap.size 0 x.actor.cells).heap[W2.heap.size]? = some (cellsO x.actor.cells 107) := by simp only [push_cast, Nat.reduceAdd, Nat.reduceLeDiff, Nat.reduceLT, Int.reduceToNat, Nat.left_eq_add, Nat.add_eq_left, Nat.add_left_cancel_iff, Nat.reduceEqDiff, Nat.add_assoc, Nat.succ_ne_zero]
  rw [zalloc_inf]
  simp only [push_cast, Nat.reduceAdd, Nat.reduceLeDiff, Nat.reduceLT, Int.reduceToNat, Nat.left_eq_add, Nat.add_eq_left, Nat.add_left_cancel_iff, Nat.reduceEqDiff, Nat.add_assoc, Nat.succ_ne_zero]
  generalize wr (W2.alloc (cellsO Inf.zero.cells 107)) W2.heap.size 0 x.actor.cells = W3 at *
  have q2 := hF3.heap q2 fun h => h
  have hE3 : EdpAt W3 b x := hF3.heap hE2 fun h => h
  have hb2 : b ≠ W2.heap.size := by omega
  have hb1 : b ≠ p1 := by omega
  have hF : Fr none_ w W3 := (hF1.trans hF2).trans hF3
  have hFb : Fr (fun y => y = b) w W3 := hF.mono fun _ _ h => h.elim
  generalize W2.heap.size = p2 at *
  clear hF3 hE2 hE1 q1 hF1 hF2 hs1 hs2 h
  refine moment_spec ?_
  have hno : ∀ e : Int, x.takeE l now = e → e ≠ 0 → K (.tuple #[.bool false, i64 e]) W3 := fun e he h0 => by
    have e1 : x.takeP l now = x := by unfold Edp.takeP; rw [if_neg (by rw [he]; exact h0)]
    have e2 : x.takeT l now = false := by unfold Edp.takeT; rw [decide_eq_false (by rw [he]; exact h0), Bool.false_and]
    rw [e1, e2, he] at hk
    exact hk _ hE3 hFb
  by_cases hm : momOk now
  case neg =>
    rw [decide_eq_false hm]
    simp only [push_cast, Nat.reduceAdd, Nat.reduceLeDiff, Nat.reduceLT, Int.reduceToNat, Nat.left_eq_add, Nat.add_eq_left, Nat.add_left_cancel_iff, Nat.reduceEqDiff, Nat.add_assoc, Nat.succ_ne_zero]
    exact hno 1 (by unfold Edp.takeE; rw [if_neg hm]) (by decide)
  rw [decide_eq_true hm]
  have q0 : W3.heap[b]? = some (cellsO x.cells 149) := hE3
  simp only [push_cast, Nat.reduceAdd, Nat.reduceLeDiff, Nat.reduceLT, Int.reduceToNat, Nat.left_eq_add, Nat.add_eq_left, Nat.add_left_cancel_iff, Nat.reduceEqDiff, Nat.add_assoc, Nat.succ_ne_zero, q0]
  refine br_dec (fun e1 => ?_) fun e1 => ?_
  · exact hno 7 (by unfold Edp.takeE; rw [if_pos hm, if_pos e1]) (by decide)
  simp only [push_cast, Nat.reduceAdd, Nat.reduceLeDiff, Nat.reduceLT, Int.reduceToNat, Nat.left_eq_add, Nat.add_eq_left, Nat.add_left_cancel_iff, Nat.reduceEqDiff, Nat.add_assoc, Nat.succ_ne_zero, q2]
  refine right_spec fun W4 hF4 => ?_
  have q2 := hF4.heap q2 fun h => h
  have q3 := hF4.heap q3 fun h => h
  have hE4 : EdpAt W4 b x := hF4.heap hE3 fun h => h
  have hFb4 : Fr (fun y => y = b) w W4 := (hF.trans hF4).mono fun _ _ h => h.elim
  have hno : ∀ e : Int, x.takeE l now = e → e ≠ 0 → K (.tuple #[.bool false, i64 e]) W4 := fun e he h0 => by
    have e1 : x.takeP l now = x := by unfold Edp.takeP; rw [if_neg (by rw [he]; exact h0)]
    have e2 : x.takeT l now = false := by unfold Edp.takeT; rw [decide_eq_false (by rw [he]; exact h0), Bool.false_and]
    rw [e1, e2, he] at hk
    exact hk _ hE4 hFb4
  simp only [push_cast, Nat.reduceAdd, Nat.reduceLeDiff, Nat.reduceLT, Int.reduceToNat, Nat.left_eq_add, Nat.add_eq_left, Nat.add_left_cancel_iff, Nat.reduceEqDiff, Nat.add_assoc, Nat.succ_ne_zero]
  by_cases hr : l.right
  case neg =>
    rw [decide_eq_false hr]
    simp only [push_cast, Nat.reduceAdd, Nat.reduceLeDiff, Nat.reduceLT, Int.reduceToNat, Nat.left_eq_add, Nat.add_eq_left, Nat.add_left_cancel_iff, Nat.reduceEqDiff, Nat.add_assoc, Nat.succ_ne_zero]
    exact hno 2 (by unfold Edp.takeE; rw [if_pos hm, if_neg e1, if_neg hr]) (by decide)
  rw [decide_eq_true hr]
  simp only [push_cast, Nat.reduceAdd, Nat.reduceLeDiff, Nat.reduceLT, Int.reduceToNat, Nat.left_eq_add, Nat.add_eq_left, Nat.add_left_cancel_iff, Nat.reduceEqDiff, Nat.add_assoc, Nat.succ_ne_zero]
  generalize hP : (if bAnd l.actor.state 4 ≠ 0 ∧ knowsP l.partner x.actor = false then l.actor.setS (bClr l.actor.state 8) else l.actor) = P'
  refine jn0 (fun W => W = W4 ∧ x.takeE l now = 0) ?_ fun j hj => ?_
  · rintro W ⟨rfl, h0⟩
    have hE : x.takeP l now = { x with state := 3, from_ := now, partner := P' } := by unfold Edp.takeP; rw [if_pos h0, hP]
    have hT : x.takeT l now = !decide (bareP l.partner = bareP x.actor) := by unfold Edp.takeT; rw [decide_eq_true h0, Bool.true_and]
    have q0 : W.heap[b]? = some (cellsO x.cells 149) := hE4
    have hF5 : Fr (fun y => y = b) W (wr W b 11 l.actor.cells) := Fr.wr W _ _ _ rfl
    have r0 : (wr W b 11 l.actor.cells).heap[b]? = some (cellsO ({ x with partner := l.actor } : Edp).cells 149) := by simp only [push_cast, Nat.reduceAdd, Nat.reduceLeDiff, Nat.reduceLT, Int.reduceToNat, Nat.left_eq_add, Nat.add_eq_left, Nat.add_left_cancel_iff, Nat.reduceEqDiff, Nat.add_assoc, Nat.succ_ne_zero, q0]
    have r1 := hF5.heap q2 (show ¬ p1 = b by omega)
    have r2 := hF5.heap q3 (show ¬ p2 = b by omega)
    have hp1 : p1 ≠ b := by omega
    simp only [push_cast, Nat.reduceAdd, Nat.reduceLeDiff, Nat.reduceLT, Int.reduceToNat, Nat.left_eq_add, Nat.add_eq_left, Nat.add_left_cancel_iff, Nat.reduceEqDiff, Nat.add_assoc, Nat.succ_ne_zero, q0, q2, hp1]
    generalize wr W b 11 l.actor.cells = W5 at *
    refine jn0 (fun W' => W'.heap[b]? = some (cellsO ({ x with partner := P' } : Edp).cells 149) ∧ Fr (fun y => y = b) W5 W') ?_ fun j hj => ?_
    · rintro W6 ⟨s0, hF6⟩
      have s1 := hF6.heap r1 (show ¬ p1 = b by omega)
      have s2 := hF6.heap r2 (show ¬ p2 = b by omega)
      have hp1 : p1 ≠ b := by omega
      simp only [push_cast, Nat.reduceAdd, Nat.reduceLeDiff, Nat.reduceLT, Int.reduceToNat, Nat.left_eq_add, Nat.add_eq_left, Nat.add_left_cancel_iff, Nat.reduceEqDiff, Nat.add_assoc, Nat.succ_ne_zero, s0, s1, hp1]
      have hF7 : Fr (fun y => y = b) w (wr (wr W6 b 22 [i64 3]) b 24 [i64 now]).drew := ((((hFb4.trans hF5).trans hF6).step_wr (.inl rfl) _ _).step_wr (.inl rfl) _ _).step_drew
      have t0 : EdpAt (wr (wr W6 b 22 [i64 3]) b 24 [i64 now]).drew b { x with state := 3, from_ := now, partner := P' } := by
        unfold EdpAt
        simp only [push_cast, Nat.reduceAdd, Nat.reduceLeDiff, Nat.reduceLT, Int.reduceToNat, Nat.left_eq_add, Nat.add_eq_left, Nat.add_left_cancel_iff, Nat.reduceEqDiff, Nat.add_assoc, Nat.succ_ne_zero, s0]
      have t1 : (wr (wr W6 b 22 [i64 3]) b 24 [i64 now]).drew.heap[p1]? = some (cellsO l.cells 123) := by
        simp only [push_cast, Nat.reduceAdd, Nat.reduceLeDiff, Nat.reduceLT, Int.reduceToNat, Nat.left_eq_add, Nat.add_eq_left, Nat.add_left_cancel_iff, Nat.reduceEqDiff, Nat.add_assoc, Nat.succ_ne_zero, s1]
        rw [if_neg (by omega), if_neg (by omega)]
      have t2 : (wr (wr W6 b 22 [i64 3]) b 24 [i64 now]).drew.heap[p2]? = some (cellsO x.actor.cells 107) := by
        simp only [push_cast, Nat.reduceAdd, Nat.reduceLeDiff, Nat.reduceLT, Int.reduceToNat, Nat.left_eq_add, Nat.add_eq_left, Nat.add_left_cancel_iff, Nat.reduceEqDiff, Nat.add_assoc, Nat.succ_ne_zero, s2]
        rw [if_neg (by omega), if_neg (by omega)]
      generalize (wr (wr W6 b 22 [i64 3]) b 24 [i64 now]).drew = W7 at *
      rw [hE, hT, h0] at hk
      have fin : ∀ W8, Fr none_ W7 W8 → K (.tuple #[.bool (!decide (bareP l.partner = bareP x.actor)), i64 0]) W8 := fun W8 hF8 =>
        hk W8 (hF8.heap t0 fun h => h) (hF7.trans (hF8.mono fun _ _ h => h.elim))
      refine allW_intro ?_ ?_
      · refine bare_spec fun W8 hF8 => ?_
        have u2 := hF8.heap t2 fun h => h
        simp only [push_cast, Nat.reduceAdd, Nat.reduceLeDiff, Nat.reduceLT, Int.reduceToNat, Nat.left_eq_add, Nat.add_eq_left, Nat.add_left_cancel_iff, Nat.reduceEqDiff, Nat.add_assoc, Nat.succ_ne_zero, u2]
        refine bare_spec fun W9 hF9 => ?_
        refine s_neInf (bare_ok hr.2.1 hl.2.1.2.1) (bare_ok hme hmes) ?_
        exact fin _ (hF8.trans hF9)
      · simp only [push_cast, Nat.reduceAdd, Nat.reduceLeDiff, Nat.reduceLT, Int.reduceToNat, Nat.left_eq_add, Nat.add_eq_left, Nat.add_left_cancel_iff, Nat.reduceEqDiff, Nat.add_assoc, Nat.succ_ne_zero, t2]
        refine bare_spec fun W8 hF8 => ?_
        simp only [push_cast, Nat.reduceAdd, Nat.reduceLeDiff, Nat.reduceLT, Int.reduceToNat, Nat.left_eq_add, Nat.add_eq_left, Nat.add_left_cancel_iff, Nat.reduceEqDiff, Nat.add_assoc, Nat.succ_ne_zero]
        refine bare_spec fun W9 hF9 => ?_
        refine s_neInf (bare_ok hr.2.1 hl.2.1.2.1) (bare_ok hme hmes) ?_
        exact fin _ (hF8.trans hF9)
    · refine jn0 (fun W' => W' = W5 ∧ P' = l.actor ∨ Fr none_ W5 W' ∧ P' = l.actor) ?_ fun j1 hj1 => ?_
      · rintro W' (⟨rfl, e⟩ | ⟨hF6, e⟩)
        · exact hj _ ⟨by rw [e]; exact r0, Fr.refl _ _⟩
        · exact hj _ ⟨by rw [e]; exact hF6.heap r0 fun h => h, hF6.mono fun _ _ h => h.elim⟩
      · rw [brn_br]
        refine br_intro (fun e => ?_) fun e => ?_
        · have e : bAnd l.actor.state 4 ≠ 0 := by simpa using e
          simp only [push_cast, Nat.reduceAdd, Nat.reduceLeDiff, Nat.reduceLT, Int.reduceToNat, Nat.left_eq_add, Nat.add_eq_left, Nat.add_left_cancel_iff, Nat.reduceEqDiff, Nat.add_assoc, Nat.succ_ne_zero, r1, r2]
          refine knows_spec hr.2.1 hl.2.1.2.1 hme hmes fun W6 hF6 => ?_
          have s0 := hF6.heap r0 fun h => h
          simp only [push_cast, Nat.reduceAdd, Nat.reduceLeDiff, Nat.reduceLT, Int.reduceToNat, Nat.left_eq_add, Nat.add_eq_left, Nat.add_left_cancel_iff, Nat.reduceEqDiff, Nat.add_assoc, Nat.succ_ne_zero]
          refine br_intro (fun e2 => ?_) fun e2 => ?_
          · have e2 : knowsP l.partner x.actor = false := by simpa using e2
            rw [if_pos ⟨e, e2⟩] at hP
            simp only [push_cast, Nat.reduceAdd, Nat.reduceLeDiff, Nat.reduceLT, Int.reduceToNat, Nat.left_eq_add, Nat.add_eq_left, Nat.add_left_cancel_iff, Nat.reduceEqDiff, Nat.add_assoc, Nat.succ_ne_zero, s0]
            have hF6b : Fr (fun y => y = b) W5 W6 := hF6.mono fun _ _ h => h.elim
            refine hj _ ⟨?_, hF6b.step_wr (.inl rfl) _ _⟩
            simp only [push_cast, Nat.reduceAdd, Nat.reduceLeDiff, Nat.reduceLT, Int.reduceToNat, Nat.left_eq_add, Nat.add_eq_left, Nat.add_left_cancel_iff, Nat.reduceEqDiff, Nat.add_assoc, Nat.succ_ne_zero, s0]
            rw [← hP]; rfl
          · have e2 : knowsP l.partner x.actor = true := by simpa using e2
            rw [if_neg (fun hh => by rw [e2] at hh; cases hh.2)] at hP
            exact hj1 _ (.inr ⟨hF6, hP.symm⟩)
        · have e : bAnd l.actor.state 4 = 0 := by simpa using e
          rw [if_neg (fun hh => hh.1 e)] at hP
          exact hj1 _ (.inl ⟨rfl, hP.symm⟩)
  · simp only [push_cast, Nat.reduceAdd, Nat.reduceLeDiff, Nat.reduceLT, Int.reduceToNat, Nat.left_eq_add, Nat.add_eq_left, Nat.add_left_cancel_iff, Nat.reduceEqDiff, Nat.add_assoc, Nat.succ_ne_zero, q2, q3]
    have hsys : x.actor.sys = x.own.sys := rfl
    have hport : x.actor.port = x.own.port := rfl
    refine s_eqMac hl.1.2.1 hmes ?_
    simp only [push_cast, Nat.reduceAdd, Nat.reduceLeDiff, Nat.reduceLT, Int.reduceToNat, Nat.left_eq_add, Nat.add_eq_left, Nat.add_left_cancel_iff, Nat.reduceEqDiff, Nat.add_assoc, Nat.succ_ne_zero]
    refine br_dec (fun e2 => ?_) fun e2 => ?_
    · simp only [push_cast, Nat.reduceAdd, Nat.reduceLeDiff, Nat.reduceLT, Int.reduceToNat, Nat.left_eq_add, Nat.add_eq_left, Nat.add_left_cancel_iff, Nat.reduceEqDiff, Nat.add_assoc, Nat.succ_ne_zero, q2, q3]
      refine br_dec (fun e3 => ?_) fun e3 => ?_
      · exact hno 5 (by unfold Edp.takeE; rw [if_pos hm, if_neg e1, if_pos hr, if_pos ⟨e2, e3⟩]) (by decide)
      · exact hj _ ⟨rfl, by unfold Edp.takeE; rw [if_pos hm, if_neg e1, if_pos hr, if_neg fun hh => e3 hh.2]⟩
    · exact hj _ ⟨rfl, by unfold Edp.takeE; rw [if_pos hm, if_neg e1, if_pos hr, if_neg fun hh => e2 hh.1]⟩

/-! ### A new one -/

def newEnd (a : Inf) : Edp := ⟨a, Inf.zero, 0, 0, 0⟩
theorem clr7 : bClr 7 7 = 0 := by decide +kernel

theorem build_end {a : Inf} : opS Try.prog (S.build 149 [(0, .agg a.cells.toArray)]) K w = K (.agg (newEnd a).cells.toArray) w := by
  rw [opS_build _ rfl]; rfl

theorem rxnew_spec {a : Inf} (ha : a.state = 7) (h0 : ¬ a.right → ∀ w', Fr none_ w w' → K (.tuple #[.pointer none, i64 1]) w')
    (h1 : a.right → ∀ b w', w.heap.size ≤ b → EdpAt w' b (newEnd a) → Fr none_ w w' → K (.tuple #[pt b 0, i64 0]) w') : CallsR Try.prog 45 #[.agg a.cells.toArray] K w := by
  apply c45
  unfold p45
  have hF1 : Fr none_ w (w.alloc (cellsO a.cells 107)) := (by repeat' first | with_reducible exact Fr.refl _ _ | with_reducible refine Fr.step_alloc ?_ ?_ | with_reducible refine Fr.step_drew ?_ | with_reducible refine Fr.step_wr ?_ ?_ _ _ | exact rfl | exact Or.inr (by omega) | exact Or.inl rfl | exact Or.inl (Or.inl rfl) | exact Or.inl (Or.inr rfl))
  have q1 : (w.alloc (cellsO a.cells 107)).heap[w.heap.size]? = some (cellsO a.cells 107) := by simp only [push_cast, Nat.reduceAdd, Nat.reduceLeDiff, Nat.reduceLT, Int.reduceToNat, Nat.left_eq_add, Nat.add_eq_left, Nat.add_left_cancel_iff, Nat.reduceEqDiff, Nat.add_assoc, Nat.succ_ne_zero]
  simp only [opS_box, cells_agg, alloc_cellsO]
  have hs1 := hF1.size
  generalize w.alloc (cellsO a.cells 107) = W1 at *
  simp only [push_cast, Nat.reduceAdd, Nat.reduceLeDiff, Nat.reduceLT, Int.reduceToNat, Nat.left_eq_add, Nat.add_eq_left, Nat.add_left_cancel_iff, Nat.reduceEqDiff, Nat.add_assoc, Nat.succ_ne_zero, q1]
  refine right_spec fun W2 hF2 => ?_
  have q2 := hF2.heap q1 fun h => h
  have hs2 := hF2.size
  have er : (Lcp.mk a Inf.zero 0).right ↔ a.right := ⟨fun h => h.1, fun h => ⟨h, Inf.zero_right, by show wth 65535 0; decide⟩⟩
  simp only [push_cast, Nat.reduceAdd, Nat.reduceLeDiff, Nat.reduceLT, Int.reduceToNat, Nat.left_eq_add, Nat.add_eq_left, Nat.add_left_cancel_iff, Nat.reduceEqDiff, Nat.add_assoc, Nat.succ_ne_zero]
  by_cases hr : a.right
  · rw [decide_eq_true (er.2 hr)]
    simp only [push_cast, Nat.reduceAdd, Nat.reduceLeDiff, Nat.reduceLT, Int.reduceToNat, Nat.left_eq_add, Nat.add_eq_left, Nat.add_left_cancel_iff, Nat.reduceEqDiff, Nat.add_assoc, Nat.succ_ne_zero, q2, ha, clr7, bne_self_eq_false]
    rw [build_end]
    simp only [push_cast, Nat.reduceAdd, Nat.reduceLeDiff, Nat.reduceLT, Int.reduceToNat, Nat.left_eq_add, Nat.add_eq_left, Nat.add_left_cancel_iff, Nat.reduceEqDiff, Nat.add_assoc, Nat.succ_ne_zero]
    refine h1 hr _ _ (by omega) ?_ ((hF1.trans hF2).step_alloc rfl)
    unfold EdpAt
    simp only [push_cast, Nat.reduceAdd, Nat.reduceLeDiff, Nat.reduceLT, Int.reduceToNat, Nat.left_eq_add, Nat.add_eq_left, Nat.add_left_cancel_iff, Nat.reduceEqDiff, Nat.add_assoc, Nat.succ_ne_zero]
  · rw [decide_eq_false (fun hh => hr (er.1 hh))]
    simp only [push_cast, Nat.reduceAdd, Nat.reduceLeDiff, Nat.reduceLT, Int.reduceToNat, Nat.left_eq_add, Nat.add_eq_left, Nat.add_left_cancel_iff, Nat.reduceEqDiff, Nat.add_assoc, Nat.succ_ne_zero]
    exact h0 hr _ (hF1.trans hF2)

theorem newEnd_wf {a : Inf} (h : a.right) (hs : a.sys.ok) (h7 : a.state = 7) : (newEnd a).wf :=
  ⟨h, Inf.zero_right, by show (0 : Int) ≤ 0 ∧ (0 : Int) ≤ 3; decide, .inl rfl, by show momOk 0; decide, h7, hs, Inf.zero_ok⟩

end Go.Gx.S
end

section
/- What a link of a group has come to. -/
set_option linter.unusedVariables false
set_option linter.unusedSimpArgs false
set_option maxRecDepth 100000
namespace Go.Gx.S
open Go Go.Gx Go.Proofs
variable {K : Value → World → Prop} {w : World}

/-! ### Plain -/

def _root_.Go.Gx.Mxx.rulesL (m : Mxx) (sel : Bool) (p now : Int) : List (Bool × Int) :=
  [(!sel && !(m.state == 0), 0), (sel && (m.state == 0), 1), ((m.state == 1) && decide (now - m.from_ ≥ 2), 2), (((m.state == 3) || (m.state == 4)) && !(bAnd p 8 != 0), 2), ((m.state == 4) && !(bAnd p 16 != 0), 3), ((m.state == 2) && (bAnd p 8 != 0), 3), ((m.state == 3) && (bAnd p 16 != 0), 4)]
def ruleC (r : Bool × Int) : List Value := [.bool r.1, i64 r.2]

theorem next_find {m : Mxx} (hm : m.wf) (sel : Bool) (p now : Int) : m.next sel p now = ((m.rulesL sel p now).find? (·.1)).map (·.2) := by
  obtain ⟨⟨h0, h1⟩, _⟩ := hm
  have hs : m.state = 0 ∨ m.state = 1 ∨ m.state = 2 ∨ m.state = 3 ∨ m.state = 4 := by omega
  unfold Mxx.next Mxx.rulesL
  by_cases h8 : bAnd p 8 = 0 <;> by_cases h16 : bAnd p 16 = 0 <;> cases sel <;> rcases hs with e | e | e | e | e <;>
    (try by_cases h2 : now - m.from_ ≥ 2) <;> simp [e, h8, h16, *]

/-! ### Memory -/

def MxAt (w : World) (b : Nat) (m : Mxx) : Prop := w.heap[b]? = some (cellsO m.cells 151)

theorem has_spec {p bit : Int} {cb : Nat} (h : w.heap[cb]? = some (cellsO [i64 p] 3)) (hk : K (.bool (bAnd p bit != 0)) w) : CallsR Try.prog 138 #[i64 bit, pt cb 0] K w := by
  apply c138
  unfold p138
  simp only [push_cast, Nat.reduceAdd, Nat.reduceLeDiff, Nat.reduceLT, Int.reduceToNat, Nat.left_eq_add, Nat.add_eq_left, Nat.add_left_cancel_iff, Nat.reduceEqDiff, Nat.add_assoc, Nat.succ_ne_zero, h]
  exact hk

theorem is_spec {m : Mxx} {s : Int} {cb mb : Nat} (h : w.heap[cb]? = some (cellsO [pt mb 0] 109)) (hm : MxAt w mb m) (hk : K (.bool (m.state == s)) w) : CallsR Try.prog 139 #[i64 s, pt cb 0] K w := by
  apply c139
  unfold p139
  unfold MxAt at hm
  simp only [push_cast, Nat.reduceAdd, Nat.reduceLeDiff, Nat.reduceLT, Int.reduceToNat, Nat.left_eq_add, Nat.add_eq_left, Nat.add_left_cancel_iff, Nat.reduceEqDiff, Nat.add_assoc, Nat.succ_ne_zero, h, hm]
  exact hk

theorem mstate_spec {m : Mxx} {mb : Nat} (hm : MxAt w mb m) (hk : K (i64 m.state) w) : CallsR Try.prog 67 #[pt mb 0] K w := by
  apply c67
  unfold p67
  unfold MxAt at hm
  simp only [push_cast, Nat.reduceAdd, Nat.reduceLeDiff, Nat.reduceLT, Int.reduceToNat, Nat.left_eq_add, Nat.add_eq_left, Nat.add_left_cancel_iff, Nat.reduceEqDiff, Nat.add_assoc, Nat.succ_ne_zero, hm]
  exact hk

theorem b56 : bOr (bOr (bOr 0 32) 16) 8 = 56 := by decide +kernel
theorem b24 : bOr (bOr 0 16) 8 = 24 := by decide +kernel
theorem b8 : bOr 0 8 = 8 := by decide +kernel

theorem mbits_spec {m : Mxx} {mb : Nat} (hm : MxAt w mb m) (hk : K (i64 m.bits) w) : CallsR Try.prog 92 #[pt mb 0] K w := by
  apply c92
  unfold p92
  unfold MxAt at hm
  unfold Mxx.bits at hk
  simp only [push_cast, Nat.reduceAdd, Nat.reduceLeDiff, Nat.reduceLT, Int.reduceToNat, Nat.left_eq_add, Nat.add_eq_left, Nat.add_left_cancel_iff, Nat.reduceEqDiff, Nat.add_assoc, Nat.succ_ne_zero, hm]
  refine br_dec (fun e => ?_) fun e => ?_
  · rw [if_pos e] at hk; rw [b56]; exact hk
  · rw [if_neg e] at hk
    refine br_dec (fun e => ?_) fun e => ?_
    · rw [if_pos e] at hk; rw [b24]; exact hk
    · rw [if_neg e] at hk
      refine br_dec (fun e => ?_) fun e => ?_
      · rw [if_pos e] at hk; rw [b8]; exact hk
      · rw [if_neg e] at hk; exact hk

theorem mnew_spec (hk : ∀ b w', w.heap.size ≤ b → MxAt w' b ⟨0, 0⟩ → Fr none_ w w' → K (pt b 0) w') : CallsR Try.prog 46 #[] K w := by
  apply c46
  unfold p46
  have e : ∀ (R : Value → World → Prop) W, opS Try.prog (S.build 151 []) R W = R (.agg (Mxx.cells ⟨0, 0⟩).toArray) W := fun R W => by
    rw [opS_build _ rfl]; rfl
  rw [e]
  simp only [push_cast, Nat.reduceAdd, Nat.reduceLeDiff, Nat.reduceLT, Int.reduceToNat, Nat.left_eq_add, Nat.add_eq_left, Nat.add_left_cancel_iff, Nat.reduceEqDiff, Nat.add_assoc, Nat.succ_ne_zero]
  refine hk _ _ (Nat.le_refl _) ?_ (by repeat' first | with_reducible exact Fr.refl _ _ | with_reducible refine Fr.step_alloc ?_ ?_ | with_reducible refine Fr.step_drew ?_ | with_reducible refine Fr.step_wr ?_ ?_ _ _ | exact rfl | exact Or.inr (by omega) | exact Or.inl rfl | exact Or.inl (Or.inl rfl) | exact Or.inl (Or.inr rfl))
  unfold MxAt
  simp only [push_cast, Nat.reduceAdd, Nat.reduceLeDiff, Nat.reduceLT, Int.reduceToNat, Nat.left_eq_add, Nat.add_eq_left, Nat.add_left_cancel_iff, Nat.reduceEqDiff, Nat.add_assoc, Nat.succ_ne_zero]

/-! ### The rules -/

theorem qt_rule {C : World → Prop} {b : Bool} {t : Int} (hk : K (.agg (ruleC (b, t)).toArray) w) : qtS Try.prog C (S.build 188 [(0, .bool b), (1, i64 t)]) K w :=
  qt_pure (fun R w' _ => by rw [opS_build _ rfl]; rfl) hk
theorem qt_not {C : World → Prop} {b : Bool} (hk : K (.bool (!b)) w) : qtS Try.prog C (S.un .not (.bool b)) K w := qt_pure (fun R w' _ => opS_not b) hk
/-- a value that is told where something holds -/
def cv (b want : Bool) (v : Value) : Value := if b = want then v else undef
theorem gq_gen {C : World → Prop} {b want : Bool} {s : Sem Next} (v : Value) (h : b = want → ∀ (R : Value → World → Prop) w', C w' → (∀ w'', C w'' → R v w'') → opS Try.prog s R w') (hk : K (cv b want v) w) : gqtS Try.prog C (.bool b) want s K w := by
  unfold cv at hk
  by_cases e : b = want
  · rw [if_pos e] at hk
    exact gqt_yes e (qt_run v (h e) hk)
  · rw [if_neg e] at hk
    exact gqt_no e hk
theorem cv_pos {b want : Bool} (e : b = want) (v : Value) : cv b want v = v := if_pos e
theorem gq_pure {C : World → Prop} {b want : Bool} {s : Sem Next} {v : Value} (h : b = want → ∀ (R : Value → World → Prop) w', opS Try.prog s R w' = R v w') (hk : K (cv b want v) w) : gqtS Try.prog C (.bool b) want s K w :=
  gq_gen v (fun e R w' hC hR => by rw [h e]; exact hR w' hC) hk
section
variable {C : World → Prop} {b want : Bool}
theorem gq_mv {v : Value} (hk : K (cv b want v) w) : gqtS Try.prog C (.bool b) want (S.mv v) K w := gq_pure (fun _ R w' => opS_mv v) hk
theorem gq_not {x : Bool} (hk : K (cv b want (.bool (!x))) w) : gqtS Try.prog C (.bool b) want (S.un .not (cv b want (.bool x))) K w := gq_pure (fun e R w' => by rw [cv_pos e]; exact opS_not x) hk
theorem gq_nc {x o : Nat} (hk : K (cv b want (pt x o)) w) : gqtS Try.prog C (.bool b) want (S.nc (cv b want (pt x o))) K w := gq_pure (fun e R w' => by rw [cv_pos e]; exact opS_nc x o) hk
theorem gq_geq {x y : Int} (hk : K (cv b want (.bool (decide (x ≥ y)))) w) : gqtS Try.prog C (.bool b) want (S.binI .geq (cv b want (i64 x)) (i64 y)) K w := gq_pure (fun e R w' => by rw [cv_pos e]; exact opS_geq _ x y) hk
theorem qt_and {x : Bool} (hk : K (.bool (b && x)) w) : qtS Try.prog C (S.pick (.bool b) (cv b true (.bool x)) (.bool false)) K w := qt_pure (fun R w' _ => by rw [opS_pick]; cases b <;> rfl) hk
theorem qt_or {x : Bool} (hk : K (.bool (b || x)) w) : qtS Try.prog C (S.pick (.bool b) (.bool true) (cv b false (.bool x))) K w := qt_pure (fun R w' _ => by rw [opS_pick]; cases b <;> rfl) hk
end
section
variable {W : World} {m : Mxx} {mb cp cm : Nat} {p now : Int} {b want : Bool}
theorem qt_is {s : Int} (h : W.heap[cm]? = some (cellsO [pt mb 0] 109)) (hm : MxAt W mb m) (hk : K (.bool (m.state == s)) w) : qtS Try.prog (Fr none_ W) (S.call (.func (.func 139) #[] #[pt cm 0]) [i64 s]) K w :=
  qt_run _ (fun R w' hC hR => by rw [opS_call]; exact is_spec (hC.heap h fun h => h) (hC.heap hm fun h => h) (hR w' hC)) hk
theorem gq_is {s : Int} (h : W.heap[cm]? = some (cellsO [pt mb 0] 109)) (hm : MxAt W mb m) (hk : K (cv b want (.bool (m.state == s))) w) : gqtS Try.prog (Fr none_ W) (.bool b) want (S.call (cv b want (.func (.func 139) #[] #[pt cm 0])) [i64 s]) K w :=
  gq_gen _ (fun e R w' hC hR => by rw [cv_pos e, opS_call]; exact is_spec (hC.heap h fun h => h) (hC.heap hm fun h => h) (hR w' hC)) hk
theorem gq_has {s : Int} (h : W.heap[cp]? = some (cellsO [i64 p] 3)) (hk : K (cv b want (.bool (bAnd p s != 0))) w) : gqtS Try.prog (Fr none_ W) (.bool b) want (S.call (cv b want (.func (.func 138) #[] #[pt cp 0])) [i64 s]) K w :=
  gq_gen _ (fun e R w' hC hR => by rw [cv_pos e, opS_call]; exact has_spec (hC.heap h fun h => h) (hR w' hC)) hk
theorem gq_ldm (h : W.heap[cm]? = some (cellsO [pt mb 0] 109)) (hk : K (cv b want (pt mb 0)) w) : gqtS Try.prog (Fr none_ W) (.bool b) want (S.ld 109 (pt cm 0)) K w :=
  gq_gen _ (fun e R w' hC hR => by rw [s_ld1, hC.heap h (fun h => h), cellAt_cells]; exact hR w' hC) hk
theorem gq_faf (hk : K (cv b want (pt mb 1)) w) {C : World → Prop} : gqtS Try.prog C (.bool b) want (S.fa 151 (cv b want (pt mb 0)) 1) K w :=
  gq_pure (fun e R w' => by rw [cv_pos e]; exact fa151_1 _ _) hk
theorem gq_ldf (hm : MxAt W mb m) (hk : K (cv b want (i64 m.from_)) w) : gqtS Try.prog (Fr none_ W) (.bool b) want (S.ld 3 (cv b want (pt mb 1))) K w :=
  gq_gen _ (fun e R w' hC hR => by rw [cv_pos e, s_ld1, hC.heap (show W.heap[mb]? = some (cellsO m.cells 151) from hm) (fun h => h), cellAt_cells]; exact hR w' hC) hk
theorem gq_sub (hw : m.wf) (hn : momOk now) {C : World → Prop} (hk : K (cv b want (i64 (now - m.from_))) w) : gqtS Try.prog C (.bool b) want (S.binI .sub (cv b want (i64 now)) (cv b want (i64 m.from_))) K w :=
  gq_pure (fun e R w' => by rw [cv_pos e, cv_pos e, opS_sub, wrap_i64 (by have := hw.from_; unfold momOk at this hn; omega)]) hk
end

theorem rules_spec {m : Mxx} {mb : Nat} {sel : Bool} {p now : Int} (hm : MxAt w mb m) (hw : m.wf) (hn : momOk now)
    (hk : ∀ v w', RdE 2 w' v ((m.rulesL sel p now).map ruleC) → Fr none_ w w' → K v w') : CallsR Try.prog 125 #[pt mb 0, .bool sel, i64 p, i64 now] K w := by
  apply c125
  unfold p125
  have hF : Fr none_ w ((w.alloc (cellsO [pt mb 0] 109)).alloc (cellsO [i64 p] 3)) := (by repeat' first | with_reducible exact Fr.refl _ _ | with_reducible refine Fr.step_alloc ?_ ?_ | with_reducible refine Fr.step_drew ?_ | with_reducible refine Fr.step_wr ?_ ?_ _ _ | exact rfl | exact Or.inr (by omega) | exact Or.inl rfl | exact Or.inl (Or.inl rfl) | exact Or.inl (Or.inr rfl))
  have h0 : ((w.alloc (cellsO [pt mb 0] 109)).alloc (cellsO [i64 p] 3)).heap[w.heap.size]? = some (cellsO [pt mb 0] 109) := by simp only [push_cast, Nat.reduceAdd, Nat.reduceLeDiff, Nat.reduceLT, Int.reduceToNat, Nat.left_eq_add, Nat.add_eq_left, Nat.add_left_cancel_iff, Nat.reduceEqDiff, Nat.add_assoc, Nat.succ_ne_zero]
  have h1 : ((w.alloc (cellsO [pt mb 0] 109)).alloc (cellsO [i64 p] 3)).heap[w.heap.size + 1]? = some (cellsO [i64 p] 3) := by simp only [push_cast, Nat.reduceAdd, Nat.reduceLeDiff, Nat.reduceLT, Int.reduceToNat, Nat.left_eq_add, Nat.add_eq_left, Nat.add_left_cancel_iff, Nat.reduceEqDiff, Nat.add_assoc, Nat.succ_ne_zero]
  have hm' : MxAt ((w.alloc (cellsO [pt mb 0] 109)).alloc (cellsO [i64 p] 3)) mb m := hF.heap hm fun h => h
  simp only [opS_box, cells_pt, cells_int, alloc_cellsO, size_alloc, opS_mkf, drw_eq]
  generalize ((w.alloc (cellsO [pt mb 0] 109)).alloc (cellsO [i64 p] 3)) = W at *
  refine quietS_intro (Fr none_ W) (Fr.drew W) ?_
  refine qt_not ?_
  refine gq_mv ?_
  refine gq_is h0 hm' ?_
  refine gq_not ?_
  refine qt_and ?_
  refine qt_rule ?_
  refine gq_mv ?_
  refine gq_is h0 hm' ?_
  refine qt_and ?_
  refine qt_rule ?_
  refine qt_is h0 hm' ?_
  refine gq_mv ?_
  refine gq_ldm h0 ?_
  refine gq_nc ?_
  refine gq_faf ?_
  refine gq_ldf hm' ?_
  refine gq_sub hw hn ?_
  refine gq_geq ?_
  refine qt_and ?_
  refine qt_rule ?_
  refine qt_is h0 hm' ?_
  refine gq_mv ?_
  refine gq_is h0 hm' ?_
  refine qt_or ?_
  refine gq_mv ?_
  refine gq_has h1 ?_
  refine gq_not ?_
  refine qt_and ?_
  refine qt_rule ?_
  refine qt_is h0 hm' ?_
  refine gq_mv ?_
  refine gq_has h1 ?_
  refine gq_not ?_
  refine qt_and ?_
  refine qt_rule ?_
  refine qt_is h0 hm' ?_
  refine gq_mv ?_
  refine gq_has h1 ?_
  refine qt_and ?_
  refine qt_rule ?_
  refine qt_is h0 hm' ?_
  refine gq_mv ?_
  refine gq_has h1 ?_
  refine qt_and ?_
  refine qt_rule ?_
  refine qendS_intro fun w2 hF2 => ?_
  refine s_bsN (z := .agg #[.bool false, .int .i64 0]) ((m.rulesL sel p now).map fun r => .agg (ruleC r).toArray) (by show 0 < 7; decide) (by decide) (by show 7 * 2 ≤ 2 ^ 24; decide) rfl (by simp [ruleC, Value.cells, Mxx.rulesL]) fun v w3 hv hF3 _ => ?_
  rw [List.map_map] at hv
  exact hk _ _ hv.rd ((hF.trans hF2).trans hF3)

end Go.Gx.S
end

section
/- A link: whether it is sound, what it comes to, whether it tells. -/
set_option linter.unusedVariables false
set_option linter.unusedSimpArgs false
set_option maxRecDepth 100000
namespace Go.Gx.S
open Go Go.Gx Go.Proofs
variable {K : Value → World → Prop} {w : World}

/-! ### It goes on by one -/

theorem find_at {α : Type} {p : α → Bool} {l : List α} {i : Nat} (hi : i < l.length) (h0 : ∀ x ∈ l.take i, p x = false) (h1 : p l[i] = true) : l.find? p = some l[i] := by
  conv => lhs; rw [← List.take_append_drop i l]
  rw [List.find?_append, List.find?_eq_none.2 (fun x hx => by rw [h0 x hx]; decide), Option.none_or, List.drop_eq_getElem_cons hi, List.find?_cons_of_pos h1]

theorem mstep_spec {m : Mxx} {mb : Nat} {sel : Bool} {p now : Int} (hm : MxAt w mb m) (hw : m.wf) (hp : isSt p) (hn : momOk now)
    (hk : ∀ w', MxAt w' mb (m.stepP sel p now) → Fr (fun y => y = mb) w w' → K (.tuple #[.bool (m.next sel p now).isSome, i64 0]) w') : CallsR Try.prog 90 #[pt mb 0, .bool sel, i64 p, i64 now] K w := by
  apply c90
  unfold p90
  simp only [push_cast, Nat.reduceAdd, Nat.reduceLeDiff, Nat.reduceLT, Int.reduceToNat, Nat.left_eq_add, Nat.add_eq_left, Nat.add_left_cancel_iff, Nat.reduceEqDiff, Nat.add_assoc, Nat.succ_ne_zero]
  refine br_no (by unfold momOk at hn; omega) ?_
  refine br_no (by unfold momOk at hn; omega) ?_
  refine br_no (by unfold isSt at hp; omega) ?_
  refine br_no (by unfold isSt at hp; omega) ?_
  refine rules_spec hm hw hn fun v w1 hv hF1 => ?_
  have hnf := next_find hw sel p now
  unfold Mxx.stepP at hk
  rw [hnf] at hk
  have hlen : (m.rulesL sel p now).length = 7 := rfl
  obtain ⟨va, vc, rfl⟩ := hv.form
  rw [List.length_map] at hv ⊢
  generalize m.rulesL sel p now = L at *
  have hm1 : MxAt w1 mb m := hF1.heap hm fun h => h
  simp only [push_cast, Nat.reduceAdd, Nat.reduceLeDiff, Nat.reduceLT, Int.reduceToNat, Nat.left_eq_add, Nat.add_eq_left, Nat.add_left_cancel_iff, Nat.reduceEqDiff, Nat.add_assoc, Nat.succ_ne_zero]
  refine jn0 (fun W => Fr none_ w1 W ∧ ∀ r ∈ L, r.1 = false) ?_ fun j hj => ?_
  · rintro W ⟨hF2, h0⟩
    rw [List.find?_eq_none.2 fun r hr => by rw [h0 r hr]; decide] at hk
    exact hk W (hF2.heap hm1 fun h => h) ((hF1.trans hF2).mono fun _ _ h => h.elim)
  refine loop1 (fun n u W => ∃ i : Nat, u = i64 i ∧ i + n = L.length ∧ Fr none_ w1 W ∧ ∀ r ∈ L.take i, r.1 = false) ?_ L.length ⟨0, rfl, by omega, Fr.refl _ _, by simp⟩
  rintro n u W X ⟨i, rfl, hi, hF2, h0⟩ hX
  simp only [push_cast, Nat.reduceAdd, Nat.reduceLeDiff, Nat.reduceLT, Int.reduceToNat, Nat.left_eq_add, Nat.add_eq_left, Nat.add_left_cancel_iff, Nat.reduceEqDiff, Nat.add_assoc, Nat.succ_ne_zero]
  refine br_dec (fun hlt => ?_) fun hge => ?_
  · have hil : i < L.length := by omega
    refine s_iaE (es := L.map ruleC) (hv.fr hF2 fun _ _ h => h) (by omega) (by simpa using hil) fun b1 o1 c1 _ hE => ?_
    simp only [Int.toNat_natCast, List.getElem_map] at hE ⊢
    have hag := hE.agg0 (n := 2) rfl
    have hF3 : Fr none_ w1 (wr (W.alloc (cellsO [.bool false, .int .i64 0] 188)) W.heap.size 0 (ruleC L[i])) := (hF2.step_alloc rfl).step_wr (.inr hF2.size) _ _
    have h3 : (wr (W.alloc (cellsO [.bool false, .int .i64 0] 188)) W.heap.size 0 (ruleC L[i])).heap[W.heap.size]? = some (cellsO [.bool L[i].1, i64 L[i].2] 188) := by
      simp only [push_cast, Nat.reduceAdd, Nat.reduceLeDiff, Nat.reduceLT, Int.reduceToNat, Nat.left_eq_add, Nat.add_eq_left, Nat.add_left_cancel_iff, Nat.reduceEqDiff, Nat.add_assoc, Nat.succ_ne_zero, ruleC]
    have hsz := size_alloc W (cellsO [.bool false, .int .i64 0] 188)
    have hst : ∀ (R : Value → World → Prop), opS Try.prog (S.st 188 (pt W.heap.size 0) (.agg (ruleC L[i]).toArray)) R (W.alloc (cellsO [.bool false, .int .i64 0] 188)) = R undef (wr (W.alloc (cellsO [.bool false, .int .i64 0] 188)) W.heap.size 0 (ruleC L[i])) := fun R => by
      rw [s_stA _ _ _ rfl rfl, heap_alloc, if_pos rfl, okAt_cells]
      exact onB_true _
    simp only [push_cast, Nat.reduceAdd, Nat.reduceLeDiff, Nat.reduceLT, Int.reduceToNat, Nat.left_eq_add, Nat.add_eq_left, Nat.add_left_cancel_iff, Nat.reduceEqDiff, Nat.add_assoc, Nat.succ_ne_zero, hag]
    rw [hst]
    have hmW : MxAt (wr (W.alloc (cellsO [.bool false, .int .i64 0] 188)) W.heap.size 0 (ruleC L[i])) mb m := hF3.heap hm1 fun h => h
    have hne : W.heap.size ≠ mb := by have := lt_of_heap (show w1.heap[mb]? = some _ from hm1); have := hF2.size; omega
    generalize wr (W.alloc (cellsO [.bool false, .int .i64 0] 188)) W.heap.size 0 (ruleC L[i]) = W3 at *
    simp only [push_cast, Nat.reduceAdd, Nat.reduceLeDiff, Nat.reduceLT, Int.reduceToNat, Nat.left_eq_add, Nat.add_eq_left, Nat.add_left_cancel_iff, Nat.reduceEqDiff, Nat.add_assoc, Nat.succ_ne_zero, h3]
    have hwk : IntKind.i64.wrap ((i : Int) + 1) = ((i + 1 : Nat) : Int) := by rw [wrap_i64 (by omega)]; rfl
    refine br_intro (fun e => ?_) fun e => ?_
    · simp only [push_cast, Nat.reduceAdd, Nat.reduceLeDiff, Nat.reduceLT, Int.reduceToNat, Nat.left_eq_add, Nat.add_eq_left, Nat.add_left_cancel_iff, Nat.reduceEqDiff, Nat.add_assoc, Nat.succ_ne_zero, hwk]
      refine hX (n - 1) _ _ (by omega) ⟨i + 1, rfl, by omega, hF3, fun r hr => ?_⟩
      rw [List.take_add_one, List.getElem?_eq_getElem hil] at hr
      rcases List.mem_append.1 hr with hr | hr
      · exact h0 r hr
      · simp at hr
        subst hr
        simpa using e
    · have ht : L[i].1 = true := by simpa using e
      rw [find_at hil h0 ht] at hk
      simp only [Option.map_some, Option.isSome_some] at hk
      unfold MxAt at hmW hk
      have hF4 : Fr (fun y => y = mb) w W3 := (hF1.trans hF3).mono fun _ _ h => h.elim
      simp only [push_cast, Nat.reduceAdd, Nat.reduceLeDiff, Nat.reduceLT, Int.reduceToNat, Nat.left_eq_add, Nat.add_eq_left, Nat.add_left_cancel_iff, Nat.reduceEqDiff, Nat.add_assoc, Nat.succ_ne_zero, hmW, hne]
      refine br_dec (fun e1 => ?_) fun e1 => ?_
      · refine hk _ ?_ ((hF4.step_wr (.inl rfl) _ _).step_wr (.inl rfl) _ _)
        simp only [push_cast, Nat.reduceAdd, Nat.reduceLeDiff, Nat.reduceLT, Int.reduceToNat, Nat.left_eq_add, Nat.add_eq_left, Nat.add_left_cancel_iff, Nat.reduceEqDiff, Nat.add_assoc, Nat.succ_ne_zero, hmW]
        unfold Mxx.goto
        rw [if_pos e1]
      · refine hk _ ?_ (hF4.step_wr (.inl rfl) _ _)
        simp only [push_cast, Nat.reduceAdd, Nat.reduceLeDiff, Nat.reduceLT, Int.reduceToNat, Nat.left_eq_add, Nat.add_eq_left, Nat.add_left_cancel_iff, Nat.reduceEqDiff, Nat.add_assoc, Nat.succ_ne_zero, hmW]
        unfold Mxx.goto
        rw [if_neg e1]
  · rw [List.take_of_length_le (by omega)] at h0
    exact hj _ ⟨hF2, h0⟩

/-! ### A link in memory -/

structure _root_.Go.Gx.B3 where
  b : Nat
  e : Nat
  m : Nat
  deriving DecidableEq, Inhabited
def _root_.Go.Gx.B3.fp (t : B3) : Nat → Prop := fun y => y = t.b ∨ y = t.e ∨ y = t.m

/-- the code's (false), the reference's (true) -/
def lkC (r : Bool) (t : B3) (x : Lk) : List Value :=
  match r with
  | false => [pt t.e 0, pt t.m 0, i64 x.port, .bool x.picked, .bool x.due, i64 x.last]
  | true => [i64 x.port, pt t.e 0, pt t.m 0, .bool x.picked, .bool x.due, i64 x.last]
section
variable (r : Bool) (t : B3) (x : Lk)
theorem lkC_len : (lkC r t x).length = 6 := by cases r <;> rfl
theorem lkC_e0 : (lkC false t x)[0]? = some (pt t.e 0) := id rfl
theorem lkC_m0 : (lkC false t x)[1]? = some (pt t.m 0) := id rfl
theorem lkC_p0 : (lkC false t x)[2]? = some (i64 x.port) := id rfl
theorem lkC_e1 : (lkC true t x)[1]? = some (pt t.e 0) := id rfl
theorem lkC_m1 : (lkC true t x)[2]? = some (pt t.m 0) := id rfl
theorem lkC_p1 : (lkC true t x)[0]? = some (i64 x.port) := id rfl
theorem lkC_picked : (lkC r t x)[3]? = some (.bool x.picked) := by cases r <;> rfl
theorem lkC_due : (lkC r t x)[4]? = some (.bool x.due) := by cases r <;> rfl
theorem lkC_last : (lkC r t x)[5]? = some (i64 x.last) := by cases r <;> rfl
theorem lkC_spicked (v : Bool) : splice (lkC r t x) 3 [.bool v] = lkC r t { x with picked := v } := by cases r <;> rfl
theorem lkC_sdue (v : Bool) : splice (lkC r t x) 4 [.bool v] = lkC r t { x with due := v } := by cases r <;> rfl
theorem lkC_slast (v : Int) : splice (lkC r t x) 5 [i64 v] = lkC r t { x with last := v } := by cases r <;> rfl
theorem lkC_em (e : Edp) (m : Mxx) : lkC r t { x with e := e, m := m } = lkC r t x := by cases r <;> rfl
theorem lkC_e (e : Edp) : lkC r t { x with e := e } = lkC r t x := by cases r <;> rfl
theorem lkC_m (m : Mxx) : lkC r t { x with m := m } = lkC r t x := by cases r <;> rfl
end
attribute [push_cast] lkC_len lkC_e0 lkC_m0 lkC_p0 lkC_e1 lkC_m1 lkC_p1 lkC_picked lkC_due lkC_last lkC_spicked lkC_sdue lkC_slast

structure LkM (r : Bool) (TB TE TM : TypeId) (w : World) (t : B3) (x : Lk) : Prop where
  b : w.heap[t.b]? = some (cellsO (lkC r t x) TB)
  e : w.heap[t.e]? = some (cellsO x.e.cells TE)
  m : w.heap[t.m]? = some (cellsO x.m.cells TM)
  be : t.b ≠ t.e
  bm : t.b ≠ t.m
  em : t.e ≠ t.m

section
variable {r : Bool} {TB TE TM : TypeId} {t : B3} {x : Lk}
theorem LkM.fr {fp : Nat → Prop} {w' : World} (h : LkM r TB TE TM w t x) (hF : Fr fp w w') (hn : ∀ y, t.fp y → ¬ fp y) : LkM r TB TE TM w' t x :=
  ⟨hF.heap h.b (hn _ (.inl rfl)), hF.heap h.e (hn _ (.inr (.inl rfl))), hF.heap h.m (hn _ (.inr (.inr rfl))), h.be, h.bm, h.em⟩
theorem LkM.fr0 {w' : World} (h : LkM r TB TE TM w t x) (hF : Fr none_ w w') : LkM r TB TE TM w' t x := h.fr hF fun _ _ h => h
theorem LkM.setE {w' : World} (h : LkM r TB TE TM w t x) {e : Edp} (hF : Fr (fun y => y = t.e) w w') (he : w'.heap[t.e]? = some (cellsO e.cells TE)) : LkM r TB TE TM w' t { x with e := e } :=
  ⟨by rw [lkC_e]; exact hF.heap h.b h.be, he, hF.heap h.m (Ne.symm h.em), h.be, h.bm, h.em⟩
theorem LkM.setM {w' : World} (h : LkM r TB TE TM w t x) {m : Mxx} (hF : Fr (fun y => y = t.m) w w') (hm : w'.heap[t.m]? = some (cellsO m.cells TM)) : LkM r TB TE TM w' t { x with m := m } :=
  ⟨by rw [lkC_m]; exact hF.heap h.b h.bm, hF.heap h.e h.em, hm, h.be, h.bm, h.em⟩
/-- a link's own struct is written -/
theorem LkM.wrB (h : LkM r TB TE TM w t x) {o : Nat} {vs : List Value} {x' : Lk} (hs : splice (lkC r t x) o vs = lkC r t x') (he : x'.e = x.e) (hm : x'.m = x.m) : LkM r TB TE TM (wr w t.b o vs) t x' ∧ Fr t.fp w (wr w t.b o vs) := by
  have hF : Fr (fun y => y = t.b) w (wr w t.b o vs) := Fr.wr w _ _ _ rfl
  refine ⟨⟨?_, by rw [he]; exact hF.heap h.e (Ne.symm h.be), by rw [hm]; exact hF.heap h.m (Ne.symm h.bm), h.be, h.bm, h.em⟩, hF.mono fun _ _ e => .inl e⟩
  rw [heap_wr, if_pos rfl, h.b, putAt_cells, hs]
theorem LkM.lt (h : LkM r TB TE TM w t x) : ∀ y, t.fp y → y < w.heap.size := by
  rintro y (rfl | rfl | rfl)
  · exact lt_of_heap h.b
  · exact lt_of_heap h.e
  · exact lt_of_heap h.m
theorem frE {w' : World} (h : Fr (fun y => y = t.e) w w') : Fr t.fp w w' := h.mono fun _ _ e => .inr (.inl e)
theorem frM {w' : World} (h : Fr (fun y => y = t.m) w w') : Fr t.fp w w' := h.mono fun _ _ e => .inr (.inr e)
theorem frN {fp : Nat → Prop} {w' : World} (h : Fr none_ w w') : Fr fp w w' := h.mono fun _ _ e => e.elim
end

abbrev CLk (w : World) (t : B3) (x : Lk) : Prop := LkM false 112 149 151 w t x

section
variable {t : B3} {x : Lk}
theorem bne_dec (a b : Int) : (a != b) = decide (a ≠ b) := by
  rw [Bool.eq_iff_iff]; simp

theorem sound_spec (h : CLk w t x) (hk : ∀ w', Fr none_ w w' → K (.bool x.sound) w') : CallsR Try.prog 85 #[pt t.b 0] K w := by
  apply c85
  unfold p85
  simp only [push_cast, Nat.reduceAdd, Nat.reduceLeDiff, Nat.reduceLT, Int.reduceToNat, Nat.left_eq_add, Nat.add_eq_left, Nat.add_left_cancel_iff, Nat.reduceEqDiff, Nat.add_assoc, Nat.succ_ne_zero, h.b]
  refine state_spec h.e ?_
  unfold Lk.sound at hk
  simp only [push_cast, Nat.reduceAdd, Nat.reduceLeDiff, Nat.reduceLT, Int.reduceToNat, Nat.left_eq_add, Nat.add_eq_left, Nat.add_left_cancel_iff, Nat.reduceEqDiff, Nat.add_assoc, Nat.succ_ne_zero]
  refine br_dec (fun e => ?_) fun e => ?_
  · rw [decide_eq_true e, Bool.true_and] at hk
    simp only [push_cast, Nat.reduceAdd, Nat.reduceLeDiff, Nat.reduceLT, Int.reduceToNat, Nat.left_eq_add, Nat.add_eq_left, Nat.add_left_cancel_iff, Nat.reduceEqDiff, Nat.add_assoc, Nat.succ_ne_zero, h.b]
    refine partner_spec h.e fun w2 hF2 => ?_
    simp only [push_cast, Nat.reduceAdd, Nat.reduceLeDiff, Nat.reduceLT, Int.reduceToNat, Nat.left_eq_add, Nat.add_eq_left, Nat.add_left_cancel_iff, Nat.reduceEqDiff, Nat.add_assoc, Nat.succ_ne_zero]
    have := hk w2 hF2
    rw [← bne_dec] at this
    exact this
  · rw [decide_eq_false e, Bool.false_and] at hk
    exact hk w (Fr.refl _ _)

theorem chosen_spec (h : CLk w t x) (hk : K (.bool x.picked) w) : CallsR Try.prog 88 #[pt t.b 0] K w := by
  apply c88
  unfold p88
  simp only [push_cast, Nat.reduceAdd, Nat.reduceLeDiff, Nat.reduceLT, Int.reduceToNat, Nat.left_eq_add, Nat.add_eq_left, Nat.add_left_cancel_iff, Nat.reduceEqDiff, Nat.add_assoc, Nat.succ_ne_zero, h.b]
  exact hk

theorem up1_spec (h : CLk w t x) (hk : K (.bool (decide (x.m.state = 4))) w) : CallsR Try.prog 66 #[pt t.b 0] K w := by
  apply c66
  unfold p66
  simp only [push_cast, Nat.reduceAdd, Nat.reduceLeDiff, Nat.reduceLT, Int.reduceToNat, Nat.left_eq_add, Nat.add_eq_left, Nat.add_left_cancel_iff, Nat.reduceEqDiff, Nat.add_assoc, Nat.succ_ne_zero, h.b]
  refine mstate_spec h.m ?_
  simp only [push_cast, Nat.reduceAdd, Nat.reduceLeDiff, Nat.reduceLT, Int.reduceToNat, Nat.left_eq_add, Nat.add_eq_left, Nat.add_left_cancel_iff, Nat.reduceEqDiff, Nat.add_assoc, Nat.succ_ne_zero]
  exact hk

theorem system_spec {x : Inf} (hk : ∀ w', Fr none_ w w' → K (.agg (sysI x).cells.toArray) w') : CallsR Try.prog 89 #[.agg x.cells.toArray] K w := by
  apply c89
  unfold p89
  have hne : w.heap.size ≠ w.heap.size + 1 := by omega
  simp only [push_cast, Nat.reduceAdd, Nat.reduceLeDiff, Nat.reduceLT, Int.reduceToNat, Nat.left_eq_add, Nat.add_eq_left, Nat.add_left_cancel_iff, Nat.reduceEqDiff, Nat.add_assoc, Nat.succ_ne_zero, hne]
  exact hk _ (by repeat' first | with_reducible exact Fr.refl _ _ | with_reducible refine Fr.step_alloc ?_ ?_ | with_reducible refine Fr.step_drew ?_ | with_reducible refine Fr.step_wr ?_ ?_ _ _ | exact rfl | exact Or.inr (by omega) | exact Or.inl rfl | exact Or.inl (Or.inl rfl) | exact Or.inl (Or.inr rfl))

theorem tells_spec {now : Int} (h : CLk w t x) (hx : x.wf) (hn : momOk now) (hk : ∀ w', Fr none_ w w' → K (.bool (x.tells now)) w') : CallsR Try.prog 58 #[pt t.b 0, i64 now] K w := by
  apply c58
  unfold p58
  refine jn1 (fun v w' => v = i64 x.wait ∧ Fr none_ w w') ?_ fun j hj => ?_
  · rintro v w1 ⟨rfl, hF⟩
    have h1 := h.fr0 hF
    simp only [push_cast, Nat.reduceAdd, Nat.reduceLeDiff, Nat.reduceLT, Int.reduceToNat, Nat.left_eq_add, Nat.add_eq_left, Nat.add_left_cancel_iff, Nat.reduceEqDiff, Nat.add_assoc, Nat.succ_ne_zero, h1.b]
    refine state_spec h1.e ?_
    have hk := hk w1 hF
    unfold Lk.tells at hk
    simp only [push_cast, Nat.reduceAdd, Nat.reduceLeDiff, Nat.reduceLT, Int.reduceToNat, Nat.left_eq_add, Nat.add_eq_left, Nat.add_left_cancel_iff, Nat.reduceEqDiff, Nat.add_assoc, Nat.succ_ne_zero]
    refine br_intro (fun e => ?_) fun e => ?_
    · have e : x.e.state ≠ 0 := by simpa using e
      rw [decide_eq_false e, Bool.not_false, Bool.true_and] at hk
      simp only [push_cast, Nat.reduceAdd, Nat.reduceLeDiff, Nat.reduceLT, Int.reduceToNat, Nat.left_eq_add, Nat.add_eq_left, Nat.add_left_cancel_iff, Nat.reduceEqDiff, Nat.add_assoc, Nat.succ_ne_zero, h1.b]
      refine br_intro (fun e2 => ?_) fun e2 => ?_
      · rw [e2, Bool.true_or, Bool.true_or] at hk
        exact hk
      · rw [e2, Bool.false_or] at hk
        refine br_dec (fun e3 => ?_) fun e3 => ?_
        · rw [decide_eq_true e3, Bool.true_or] at hk
          exact hk
        · rw [decide_eq_false e3, Bool.false_or] at hk
          have hl := hx.last
          have hwr : IntKind.i64.wrap (now - x.last) = now - x.last := by
            unfold momOk at hn hl
            exact wrap_i64 (by omega)
          simp only [push_cast, Nat.reduceAdd, Nat.reduceLeDiff, Nat.reduceLT, Int.reduceToNat, Nat.left_eq_add, Nat.add_eq_left, Nat.add_left_cancel_iff, Nat.reduceEqDiff, Nat.add_assoc, Nat.succ_ne_zero, h1.b, hwr]
          exact hk
    · have e : x.e.state = 0 := by simpa using e
      rw [decide_eq_true e, Bool.not_true, Bool.false_and] at hk
      exact hk
  · simp only [push_cast, Nat.reduceAdd, Nat.reduceLeDiff, Nat.reduceLT, Int.reduceToNat, Nat.left_eq_add, Nat.add_eq_left, Nat.add_left_cancel_iff, Nat.reduceEqDiff, Nat.add_assoc, Nat.succ_ne_zero, h.b]
    refine partner_spec h.e fun w2 hF2 => ?_
    simp only [push_cast, Nat.reduceAdd, Nat.reduceLeDiff, Nat.reduceLT, Int.reduceToNat, Nat.left_eq_add, Nat.add_eq_left, Nat.add_left_cancel_iff, Nat.reduceEqDiff, Nat.add_assoc, Nat.succ_ne_zero]
    unfold Lk.wait at hj
    refine br_intro (fun e => ?_) fun e => ?_
    · refine hj _ _ ⟨?_, hF2⟩
      rw [if_pos (by simpa using e)]
    · refine hj _ _ ⟨?_, hF2⟩
      rw [if_neg (by simpa using e)]

theorem settle_spec {now : Int} (h : CLk w t x) (hx : x.wf) (hn : momOk now)
    (hk : ∀ w', CLk w' t (x.settleP now) → Fr t.fp w w' → K (.tuple #[]) w') : CallsR Try.prog 57 #[pt t.b 0, i64 now] K w := by
  apply c57
  unfold p57
  generalize hr : Mxx.settle x.picked x.e.partner.state now 5 x.m = r
  have hfin : ∀ W, CLk W t { x with m := r.1, due := x.due || r.2 } → Fr t.fp w W → ∀ W2, EdpAt W2 t.e (x.e.muxP r.1.bits) → Fr (fun y => y = t.e) W W2 → K (.tuple #[]) W2 := fun W h1 hF W2 he hF2 => by
    refine hk W2 ?_ (hF.trans (frE hF2))
    have := h1.setE hF2 he
    unfold Lk.settleP
    simp only [hr]
    exact this
  refine jn0 (fun W => CLk W t { x with m := r.1, due := x.due || r.2 } ∧ Fr t.fp w W) ?_ fun j hj => ?_
  · rintro W ⟨h1, hF⟩
    simp only [push_cast, Nat.reduceAdd, Nat.reduceLeDiff, Nat.reduceLT, Int.reduceToNat, Nat.left_eq_add, Nat.add_eq_left, Nat.add_left_cancel_iff, Nat.reduceEqDiff, Nat.add_assoc, Nat.succ_ne_zero, h1.b]
    have h2 := h1.fr0 (Fr.drew W)
    have hF2 := hF.trans (Fr.drew W)
    have hfin := hfin _ h2 hF2
    generalize W.drew = W2 at *
    refine allW_intro ?_ ?_
    · simp only [push_cast, Nat.reduceAdd, Nat.reduceLeDiff, Nat.reduceLT, Int.reduceToNat, Nat.left_eq_add, Nat.add_eq_left, Nat.add_left_cancel_iff, Nat.reduceEqDiff, Nat.add_assoc, Nat.succ_ne_zero, h2.b]
      refine mbits_spec h2.m ?_
      simp only [push_cast, Nat.reduceAdd, Nat.reduceLeDiff, Nat.reduceLT, Int.reduceToNat, Nat.left_eq_add, Nat.add_eq_left, Nat.add_left_cancel_iff, Nat.reduceEqDiff, Nat.add_assoc, Nat.succ_ne_zero]
      exact emux_spec h2.e Mxx.wf.bits fun W3 h3 hF3 => hfin _ h3 hF3
    · refine mbits_spec h2.m ?_
      simp only [push_cast, Nat.reduceAdd, Nat.reduceLeDiff, Nat.reduceLT, Int.reduceToNat, Nat.left_eq_add, Nat.add_eq_left, Nat.add_left_cancel_iff, Nat.reduceEqDiff, Nat.add_assoc, Nat.succ_ne_zero, h2.b]
      exact emux_spec h2.e Mxx.wf.bits fun W3 h3 hF3 => hfin _ h3 hF3
  have hst := hx.e.partner.st
  refine loop0 (fun n W => ∃ m d, CLk W t { x with m := m, due := d } ∧ m.wf ∧ Fr t.fp w W ∧ m.rank x.picked x.e.partner.state now ≤ n ∧ (Mxx.settle x.picked x.e.partner.state now n m).1 = r.1 ∧ (d || (Mxx.settle x.picked x.e.partner.state now n m).2) = (x.due || r.2)) ?_ 5
    ⟨x.m, x.due, h, hx.m, Fr.refl _ _, Nat.le_trans (Mxx.rank_le _ _ _ _) (by decide), by rw [hr], by rw [hr]⟩
  rintro n W X ⟨m, d, h1, hm, hF, hrk, hs1, hs2⟩ hX
  refine jn1 (fun v W2 => v = .bool (m.next x.picked x.e.partner.state now).isSome ∧ CLk W2 t { x with m := m.stepP x.picked x.e.partner.state now, due := d } ∧ Fr t.fp w W2) ?_ fun j2 hj2 => ?_
  · rintro v W2 ⟨rfl, h2, hF2⟩
    simp only [push_cast, Nat.reduceAdd, Nat.reduceLeDiff, Nat.reduceLT, Int.reduceToNat, Nat.left_eq_add, Nat.add_eq_left, Nat.add_left_cancel_iff, Nat.reduceEqDiff, Nat.add_assoc, Nat.succ_ne_zero]
    cases hnx : m.next x.picked x.e.partner.state now with
    | none =>
      have e1 : ∀ n, Mxx.settle x.picked x.e.partner.state now n m = (m, false) := fun n => by
        cases n with
        | zero => rfl
        | succ n => rw [Mxx.settle, hnx]
      rw [e1] at hs1 hs2
      unfold Mxx.stepP at h2
      rw [hnx] at h2
      simp only [Bool.or_false] at hs1 hs2 h2
      simp only [Option.isSome_none, Bool.not_false, br_true]
      refine hj _ ⟨?_, hF2⟩
      rw [← hs1, ← hs2]
      exact h2
    | some to =>
      have hlt := Mxx.rank_lt hm hnx
      unfold Mxx.stepP at h2
      rw [hnx] at h2
      simp only [] at h2
      simp only [Option.isSome_some, Bool.not_true, br_false, push_cast, Nat.reduceAdd, Nat.reduceLeDiff, Nat.reduceLT, Int.reduceToNat, Nat.left_eq_add, Nat.add_eq_left, Nat.add_left_cancel_iff, Nat.reduceEqDiff, Nat.add_assoc, Nat.succ_ne_zero, h2.b]
      obtain ⟨h3, hF3⟩ := h2.wrB (lkC_sdue false t _ true) rfl rfl
      obtain ⟨k, rfl⟩ : ∃ k, n = k + 1 := ⟨n - 1, by omega⟩
      rw [Mxx.settle, hnx] at hs1 hs2
      simp only [Bool.or_true] at hs1 hs2
      have hlt2 : (m.goto to now).rank x.picked x.e.partner.state now ≤ k := by omega
      exact hX k _ (by omega) ⟨_, true, h3, hm.goto (Mxx.next_st hnx) hn, hF2.trans hF3, hlt2, hs1, by rw [Bool.true_or]; exact hs2⟩
  · have hs : ∀ (v : B3) W2, CLk W2 t { x with m := m, due := d } → Fr t.fp w W2 → ∀ W3, MxAt W3 t.m (m.stepP x.picked x.e.partner.state now) → Fr (fun y => y = t.m) W2 W3 → j2 (.bool (m.next x.picked x.e.partner.state now).isSome) W3 := fun _ W2 h2 hF2 W3 h3 hF3 =>
      hj2 _ _ ⟨rfl, h2.setM hF3 h3, hF2.trans (frM hF3)⟩
    simp only [push_cast, Nat.reduceAdd, Nat.reduceLeDiff, Nat.reduceLT, Int.reduceToNat, Nat.left_eq_add, Nat.add_eq_left, Nat.add_left_cancel_iff, Nat.reduceEqDiff, Nat.add_assoc, Nat.succ_ne_zero, h1.b]
    have h2 := h1.fr0 (Fr.drew W)
    have hF2 := hF.trans (Fr.drew W)
    generalize W.drew = W2 at *
    repeat' first
      | refine allW_intro ?_ ?_
      | simp only [push_cast, Nat.reduceAdd, Nat.reduceLeDiff, Nat.reduceLT, Int.reduceToNat, Nat.left_eq_add, Nat.add_eq_left, Nat.add_left_cancel_iff, Nat.reduceEqDiff, Nat.add_assoc, Nat.succ_ne_zero, h2.b]
    all_goals
      refine partner_spec h2.e fun W3 hF3 => ?_
      have h3 := h2.fr0 hF3
      try simp only [push_cast, Nat.reduceAdd, Nat.reduceLeDiff, Nat.reduceLT, Int.reduceToNat, Nat.left_eq_add, Nat.add_eq_left, Nat.add_left_cancel_iff, Nat.reduceEqDiff, Nat.add_assoc, Nat.succ_ne_zero, h3.b]
      refine mstep_spec h3.m hm hst hn fun W4 h4 hF4 => ?_
      simp only [push_cast, Nat.reduceAdd, Nat.reduceLeDiff, Nat.reduceLT, Int.reduceToNat, Nat.left_eq_add, Nat.add_eq_left, Nat.add_left_cancel_iff, Nat.reduceEqDiff, Nat.add_assoc, Nat.succ_ne_zero]
      exact hs t _ h3 (hF2.trans (frN hF3)) _ h4 hF4
end

end Go.Gx.S
end

section
/- Links that are one, in memory; one of these is found, hears, is let be. -/
set_option linter.unusedVariables false
set_option linter.unusedSimpArgs false
set_option maxRecDepth 100000
namespace Go.Gx.S
open Go Go.Gx Go.Proofs
variable {K : Value → World → Prop} {w : World}

/-! ### Lists -/

theorem findIdx_at {α : Type} {p : α → Bool} {l : List α} {i : Nat} (hi : i < l.length) (h0 : ∀ x ∈ l.take i, p x = false) (h1 : p l[i] = true) : l.findIdx? p = some i := by
  rw [List.findIdx?_eq_some_iff_getElem]
  refine ⟨hi, h1, fun j hj => ?_⟩
  rw [h0 l[j] (List.mem_iff_getElem.2 ⟨j, by rw [List.length_take]; omega, List.getElem_take⟩)]
  decide
theorem findIdx_no {α : Type} {p : α → Bool} {l : List α} (h0 : ∀ x ∈ l, p x = false) : l.findIdx? p = none := List.findIdx?_eq_none_iff.2 h0
theorem take_snoc {α : Type} {l : List α} {i : Nat} (hi : i < l.length) : l.take (i + 1) = l.take i ++ [l[i]] := by
  rw [List.take_add_one, List.getElem?_eq_getElem hi]; rfl
theorem take_all {α : Type} {l : List α} {i : Nat} {p : α → Prop} (hi : i < l.length) (h : ∀ x ∈ l.take i, p x) (h1 : p l[i]) : ∀ x ∈ l.take (i + 1), p x := fun x hx => by
  rw [take_snoc hi] at hx
  rcases List.mem_append.1 hx with hx | hx
  · exact h x hx
  · rw [List.mem_singleton.1 hx]; exact h1

/-- the first i of a list are changed -/
def mapK {α : Type} (f : α → α) (l : List α) (i : Nat) : List α := (l.take i).map f ++ l.drop i
section
variable {α : Type} {f : α → α} {l : List α} {i : Nat}
theorem mapK_0 : mapK f l 0 = l := by simp [mapK]
theorem mapK_end (h : l.length ≤ i) : mapK f l i = l.map f := by
  unfold mapK
  rw [List.take_of_length_le h, List.drop_eq_nil_of_le h, List.append_nil]
theorem mapK_len : (mapK f l i).length = l.length := by
  unfold mapK
  rw [List.length_append, List.length_map, List.length_take, List.length_drop]
  omega
theorem mapK_at {x : α} (h : l[i]? = some x) : (mapK f l i)[i]? = some x := by
  have hi := (List.getElem?_eq_some_iff.1 h).1
  unfold mapK
  have e : ((l.take i).map f).length = i := by rw [List.length_map, List.length_take]; omega
  rw [List.getElem?_append_right (by omega), e, Nat.sub_self, List.getElem?_drop, Nat.add_zero, h]
theorem mapK_set {x : α} (h : l[i]? = some x) : (mapK f l i).set i (f x) = mapK f l (i + 1) := by
  have hi := (List.getElem?_eq_some_iff.1 h).1
  unfold mapK
  have e : ((l.take i).map f).length = i := by rw [List.length_map, List.length_take]; omega
  rw [List.set_append_right _ _ (by omega), e, Nat.sub_self, take_snoc hi, List.map_append, List.append_assoc]
  congr 1
  rw [List.drop_eq_getElem_cons hi, List.set_cons_zero]
  rw [List.getElem?_eq_getElem hi] at h
  rw [Option.some.inj h]
  rfl
end
theorem set_same {α : Type} {l : List α} {i : Nat} {x : α} (h : l[i]? = some x) : l.set i x = l := by
  obtain ⟨hi, rfl⟩ := List.getElem?_eq_some_iff.1 h
  exact List.set_getElem_self hi

/-! ### Memory -/

structure GS (r : Bool) (T TB TE TM : TypeId) (w : World) (g : Nat) (bs : List B3) (pv : Value) (s : Grp) : Prop where
  main : w.heap[g]? = some (cellsO [pv, i64 s.most] T)
  pvs : RdE 1 w pv (bs.map fun t => [pt t.b 0])
  len : bs.length = s.l.length
  lk : ∀ (i : Nat) (t : B3) (x : Lk), bs[i]? = some t → s.l[i]? = some x → LkM r TB TE TM w t x
  dis : ∀ (i j : Nat) (t u : B3), bs[i]? = some t → bs[j]? = some u → i ≠ j → ∀ y, t.fp y → ¬ u.fp y
  ng : ∀ t ∈ bs, ¬ t.fp g
  npv : ∀ b, blkS pv = some b → b ≠ g ∧ ∀ t ∈ bs, ¬ t.fp b

/-- whose blocks; those that change -/
def fG (g : Nat) (bs : List B3) : Nat → Prop := fun b => b = g ∨ ∃ t ∈ bs, t.fp b
def fL (bs : List B3) : Nat → Prop := fun b => ∃ t ∈ bs, t.fp b
theorem fL_fG {g : Nat} {bs : List B3} {b : Nat} (h : fL bs b) : fG g bs b := .inr h

section
variable {r : Bool} {T TB TE TM : TypeId} {g : Nat} {bs : List B3} {pv : Value} {s : Grp}
theorem GS.lenv {R : Value → World → Prop} (h : GS r T TB TE TM w g bs pv s) (W : World) : opS Try.prog (S.len pv) R W = R (i64 s.l.length) W := by
  obtain ⟨a, c, hv⟩ := h.pvs.form
  rw [hv, List.length_map, h.len]; rfl
theorem GS.fr {fp : Nat → Prop} {w' : World} (h : GS r T TB TE TM w g bs pv s) (hF : Fr fp w w') (h1 : ∀ b, fG g bs b → ¬ fp b) (h2 : ∀ b, blkS pv = some b → ¬ fp b) : GS r T TB TE TM w' g bs pv s :=
  ⟨hF.heap h.main (h1 _ (.inl rfl)), h.pvs.fr hF h2, h.len, fun i t x ht hx => (h.lk i t x ht hx).fr hF fun y hy => h1 y (.inr ⟨t, List.mem_of_getElem? ht, hy⟩), h.dis, h.ng, h.npv⟩
theorem GS.fr0 {w' : World} (h : GS r T TB TE TM w g bs pv s) (hF : Fr none_ w w') : GS r T TB TE TM w' g bs pv s := h.fr hF (fun _ _ h => h) fun _ _ h => h
theorem GS.blk (h : GS r T TB TE TM w g bs pv s) {i : Nat} {x : Lk} (hx : s.l[i]? = some x) : ∃ t, bs[i]? = some t ∧ LkM r TB TE TM w t x := by
  have hi := (List.getElem?_eq_some_iff.1 hx).1
  have hb : bs[i]? = some (bs[i]'(by rw [h.len]; exact hi)) := List.getElem?_eq_getElem _
  exact ⟨_, hb, h.lk i _ x hb hx⟩
theorem GS.get (h : GS r T TB TE TM w g bs pv s) {i : Nat} (hi : i < s.l.length) : ∃ t, bs[i]? = some t ∧ s.l[i]? = some s.l[i] ∧ LkM r TB TE TM w t s.l[i] := by
  obtain ⟨t, h1, h2⟩ := h.blk (List.getElem?_eq_getElem hi)
  exact ⟨t, h1, List.getElem?_eq_getElem hi, h2⟩
theorem GS.lt (h : GS r T TB TE TM w g bs pv s) : ∀ b, fG g bs b → b < w.heap.size := by
  rintro b (rfl | ⟨t, ht, hb⟩)
  · exact lt_of_heap h.main
  · obtain ⟨i, hi, rfl⟩ := List.getElem_of_mem ht
    have hi2 : i < s.l.length := by rw [← h.len]; exact hi
    exact (h.lk i _ _ (List.getElem?_eq_getElem hi) (List.getElem?_eq_getElem hi2)).lt b hb
/-- one link is another one -/
theorem GS.set {w' : World} (h : GS r T TB TE TM w g bs pv s) {i : Nat} {t : B3} {x : Lk} (ht : bs[i]? = some t) (hF : Fr t.fp w w') (h' : LkM r TB TE TM w' t x) :
    GS r T TB TE TM w' g bs pv { s with l := s.l.set i x } ∧ Fr (fL bs) w w' := by
  have hm := List.mem_of_getElem? ht
  refine ⟨⟨hF.heap h.main (h.ng t hm), h.pvs.fr hF fun b hb => (h.npv b hb).2 t hm, by show bs.length = (s.l.set i x).length; rw [List.length_set]; exact h.len, fun j u y hu hy => ?_, h.dis, h.ng, h.npv⟩, hF.mono fun y _ hy => ⟨t, hm, hy⟩⟩
  have hy : (s.l.set i x)[j]? = some y := hy
  rw [List.getElem?_set] at hy
  by_cases e : i = j
  · subst e
    rw [ht] at hu; cases hu
    rw [if_pos rfl] at hy
    split at hy
    · cases hy; exact h'
    · cases hy
  · rw [if_neg e] at hy
    exact (h.lk j u y hu hy).fr hF fun z hz hz2 => h.dis i j t u ht hu e z hz2 hz
/-- an element of the slice -/
theorem GS.ld {TS TP : TypeId} [SlT Try.prog TS TP] [Sz Try.prog TP 1 false] (h : GS r T TB TE TM w g bs pv s) {i : Nat} {t : B3} (ht : bs[i]? = some t) (hk : K (pt t.b 0) w) : opS Try.prog (S.ia TS pv (.int .i64 i)) (fun a => opS Try.prog (S.ld TP a) K) w := by
  obtain ⟨hi, e⟩ := List.getElem?_eq_some_iff.1 ht
  refine s_iaE h.pvs (by omega) (by simpa using hi) fun b1 o1 c1 _ hE => ?_
  simp only [Int.toNat_natCast, List.getElem_map] at hE ⊢
  have h0 := hE.cell0 (by show 0 < 1; decide)
  rw [s_ld1, h0, e]
  exact hk
end

abbrev CG (w : World) (g : Nat) (bs : List B3) (pv : Value) (s : Grp) : Prop := GS false 102 112 149 151 w g bs pv s

section
variable {g : Nat} {bs : List B3} {pv : Value} {s : Grp}

theorem find_spec {port : Int} (h : CG w g bs pv s) (hn : s.l.length ≤ 32) (h0 : s.at_ port = none → K (.pointer none) w)
    (h1 : ∀ i t x, s.at_ port = some i → bs[i]? = some t → s.l[i]? = some x → CLk w t x → K (pt t.b 0) w) : CallsR Try.prog 52 #[pt g 0, i64 port] K w := by
  apply c52
  unfold p52
  simp only [push_cast, Nat.reduceAdd, Nat.reduceLeDiff, Nat.reduceLT, Int.reduceToNat, Nat.left_eq_add, Nat.add_eq_left, Nat.add_left_cancel_iff, Nat.reduceEqDiff, Nat.add_assoc, Nat.succ_ne_zero, h.main]
  rw [h.lenv]
  refine jn0 (fun W => W = w ∧ ∀ x ∈ s.l, decide (x.port = port) = false) (fun W ⟨e, hx⟩ => ?_) fun j hj => ?_
  · rw [e]
    exact h0 (findIdx_no hx)
  refine loop1 (fun n u W => ∃ i : Nat, u = i64 i ∧ i + n = s.l.length ∧ W = w ∧ ∀ x ∈ s.l.take i, decide (x.port = port) = false) ?_ s.l.length ⟨0, rfl, by omega, rfl, by simp⟩
  rintro n u W X ⟨i, rfl, hi, rfl, ho⟩ hX
  simp only [push_cast, Nat.reduceAdd, Nat.reduceLeDiff, Nat.reduceLT, Int.reduceToNat, Nat.left_eq_add, Nat.add_eq_left, Nat.add_left_cancel_iff, Nat.reduceEqDiff, Nat.add_assoc, Nat.succ_ne_zero]
  refine br_dec (fun hlt => ?_) fun hge => ?_
  · have hil : i < s.l.length := by omega
    obtain ⟨t, ht, hx, hl⟩ := h.get hil
    refine h.ld ht ?_
    have hwk : IntKind.i64.wrap ((i : Int) + 1) = ((i + 1 : Nat) : Int) := by rw [wrap_i64 (by omega)]; rfl
    simp only [push_cast, Nat.reduceAdd, Nat.reduceLeDiff, Nat.reduceLT, Int.reduceToNat, Nat.left_eq_add, Nat.add_eq_left, Nat.add_left_cancel_iff, Nat.reduceEqDiff, Nat.add_assoc, Nat.succ_ne_zero, hl.b, hwk]
    refine br_dec (fun e => ?_) fun e => ?_
    · exact h1 i t _ (findIdx_at hil ho (decide_eq_true e)) ht hx hl
    · exact hX (n - 1) _ _ (by omega) ⟨i + 1, rfl, by omega, rfl, take_all hil ho (decide_eq_false e)⟩
  · rw [List.take_of_length_le (by omega)] at ho
    exact hj _ ⟨rfl, ho⟩

theorem on_none {port : Int} {f : Lk → Lk} (h : s.at_ port = none) : s.on port f = s := by unfold Grp.on; rw [h]
theorem on_some {port : Int} {f : Lk → Lk} {i : Nat} {x : Lk} (h : s.at_ port = some i) (hx : s.l[i]? = some x) : s.on port f = { s with l := s.l.set i (f x) } := by
  unfold Grp.on
  rw [h]
  simp only []
  congr 1
  apply List.ext_getElem?
  intro k
  rw [List.getElem?_modify, List.getElem?_set]
  by_cases e : i = k
  · subst e
    have hi := (List.getElem?_eq_some_iff.1 hx).1
    rw [hx, if_pos rfl, if_pos hi]; simp
  · rw [if_neg e]
    simp [e]

theorem genable_spec {port now : Int} {is : Bool} (h : CG w g bs pv s) (hw : s.wf)
    (hk : ∀ w', CG w' g bs pv (s.enableP port is now) → Fr (fL bs) w w' → K (i64 (s.enableE port now)) w') : CallsR Try.prog 19 #[pt g 0, i64 port, .bool is, i64 now] K w := by
  apply c19
  unfold p19
  simp only [push_cast, Nat.reduceAdd, Nat.reduceLeDiff, Nat.reduceLT, Int.reduceToNat, Nat.left_eq_add, Nat.add_eq_left, Nat.add_left_cancel_iff, Nat.reduceEqDiff, Nat.add_assoc, Nat.succ_ne_zero]
  unfold Grp.enableP Grp.enableE at hk
  refine find_spec h hw.len (fun e => ?_) fun i t x e ht hx hl => ?_
  · rw [on_none e, e] at hk
    simp only [push_cast, Nat.reduceAdd, Nat.reduceLeDiff, Nat.reduceLT, Int.reduceToNat, Nat.left_eq_add, Nat.add_eq_left, Nat.add_left_cancel_iff, Nat.reduceEqDiff, Nat.add_assoc, Nat.succ_ne_zero]
    exact hk w h (Fr.refl _ _)
  · rw [on_some e hx, e] at hk
    simp only [] at hk
    simp only [push_cast, Nat.reduceAdd, Nat.reduceLeDiff, Nat.reduceLT, Int.reduceToNat, Nat.left_eq_add, Nat.add_eq_left, Nat.add_left_cancel_iff, Nat.reduceEqDiff, Nat.add_assoc, Nat.succ_ne_zero, hl.b]
    refine state_spec hl.e ?_
    simp only [push_cast, Nat.reduceAdd, Nat.reduceLeDiff, Nat.reduceLT, Int.reduceToNat, Nat.left_eq_add, Nat.add_eq_left, Nat.add_left_cancel_iff, Nat.reduceEqDiff, Nat.add_assoc, Nat.succ_ne_zero, hl.b]
    refine enable_spec hl.e fun w1 h1 hF1 => ?_
    have hl1 := hl.setE hF1 h1
    have hfin : ∀ d, d = (x.due || (decide (x.e.state = 0) && !decide ((x.e.enableP is now).state = 0))) → K (i64 (momE now)) (wr w1 t.b 4 [.bool d]) := fun d hd => by
      obtain ⟨h2, hF2⟩ := hl1.wrB (lkC_sdue false t _ d) rfl rfl
      obtain ⟨h3, hF3⟩ := h.set ht ((frE hF1).trans hF2) h2
      refine hk _ ?_ hF3
      unfold Lk.enableP
      rw [← hd]
      exact h3
    simp only [push_cast, Nat.reduceAdd, Nat.reduceLeDiff, Nat.reduceLT, Int.reduceToNat, Nat.left_eq_add, Nat.add_eq_left, Nat.add_left_cancel_iff, Nat.reduceEqDiff, Nat.add_assoc, Nat.succ_ne_zero, hl1.b]
    refine br_intro (fun e1 => ?_) fun e1 => ?_
    · refine hfin true ?_
      have : x.due = true := e1
      rw [this, Bool.true_or]
    · have e1 : x.due = false := e1
      rw [e1, Bool.false_or] at hfin
      refine br_dec (fun e2 => ?_) fun e2 => ?_
      · refine state_spec h1 ?_
        simp only [push_cast, Nat.reduceAdd, Nat.reduceLeDiff, Nat.reduceLT, Int.reduceToNat, Nat.left_eq_add, Nat.add_eq_left, Nat.add_left_cancel_iff, Nat.reduceEqDiff, Nat.add_assoc, Nat.succ_ne_zero, hl1.b]
        refine hfin _ ?_
        rw [decide_eq_true e2, Bool.true_and]
        rfl
      · refine hfin false ?_
        rw [decide_eq_false e2, Bool.false_and]

theorem gtake_spec {port now : Int} {l : Lcp} (h : CG w g bs pv s) (hw : s.wf) (hl : l.ok)
    (hk : ∀ w', CG w' g bs pv (s.takeP port l now) → Fr (fL bs) w w' → K (i64 (s.takeE port l now)) w') : CallsR Try.prog 63 #[pt g 0, i64 port, .agg l.cells.toArray, i64 now] K w := by
  apply c63
  unfold p63
  have hF0 : Fr none_ w (w.alloc (cellsO l.cells 123)) := (by repeat' first | with_reducible exact Fr.refl _ _ | with_reducible refine Fr.step_alloc ?_ ?_ | with_reducible refine Fr.step_drew ?_ | with_reducible refine Fr.step_wr ?_ ?_ _ _ | exact rfl | exact Or.inr (by omega) | exact Or.inl rfl | exact Or.inl (Or.inl rfl) | exact Or.inl (Or.inr rfl))
  have q0 : (w.alloc (cellsO l.cells 123)).heap[w.heap.size]? = some (cellsO l.cells 123) := by simp only [push_cast, Nat.reduceAdd, Nat.reduceLeDiff, Nat.reduceLT, Int.reduceToNat, Nat.left_eq_add, Nat.add_eq_left, Nat.add_left_cancel_iff, Nat.reduceEqDiff, Nat.add_assoc, Nat.succ_ne_zero]
  have hg := h.fr0 hF0
  simp only [opS_box, cells_agg, alloc_cellsO]
  generalize w.alloc (cellsO l.cells 123) = w0 at *
  simp only [push_cast, Nat.reduceAdd, Nat.reduceLeDiff, Nat.reduceLT, Int.reduceToNat, Nat.left_eq_add, Nat.add_eq_left, Nat.add_left_cancel_iff, Nat.reduceEqDiff, Nat.add_assoc, Nat.succ_ne_zero]
  unfold Grp.takeP Grp.takeE at hk
  refine find_spec hg hw.len (fun e => ?_) fun i t x e ht hx hlk => ?_
  · rw [on_none e, e] at hk
    simp only [push_cast, Nat.reduceAdd, Nat.reduceLeDiff, Nat.reduceLT, Int.reduceToNat, Nat.left_eq_add, Nat.add_eq_left, Nat.add_left_cancel_iff, Nat.reduceEqDiff, Nat.add_assoc, Nat.succ_ne_zero]
    exact hk _ hg (frN hF0)
  · have hd : s.l.getD i default = x := by rw [List.getD_eq_getElem?_getD, hx]; rfl
    rw [on_some e hx, e] at hk
    simp only [hd] at hk
    have hld := hlk.fr0 (Fr.drew w0)
    have hgd := hg.fr0 (Fr.drew w0)
    simp only [push_cast, Nat.reduceAdd, Nat.reduceLeDiff, Nat.reduceLT, Int.reduceToNat, Nat.left_eq_add, Nat.add_eq_left, Nat.add_left_cancel_iff, Nat.reduceEqDiff, Nat.add_assoc, Nat.succ_ne_zero, hlk.b, q0]
    refine take_spec hld.e (hw.l x (List.mem_of_getElem? hx)).e hl fun w1 h1 hF1 => ?_
    have hl1 := hld.setE hF1 h1
    have hfin : ∀ d, d = (x.due || x.e.takeT l now) → K (i64 (x.e.takeE l now)) (wr w1 t.b 4 [.bool d]) := fun d hd => by
      obtain ⟨h2, hF2⟩ := hl1.wrB (lkC_sdue false t _ d) rfl rfl
      obtain ⟨h3, hF3⟩ := hgd.set ht ((frE hF1).trans hF2) h2
      refine hk _ ?_ ((frN (hF0.trans (Fr.drew w0))).trans hF3)
      unfold Lk.takeP
      rw [← hd]
      exact h3
    simp only [push_cast, Nat.reduceAdd, Nat.reduceLeDiff, Nat.reduceLT, Int.reduceToNat, Nat.left_eq_add, Nat.add_eq_left, Nat.add_left_cancel_iff, Nat.reduceEqDiff, Nat.add_assoc, Nat.succ_ne_zero, hl1.b]
    refine br_intro (fun e1 => ?_) fun e1 => ?_
    · refine hfin true ?_
      have : x.due = true := e1
      rw [this, Bool.true_or]
    · have e1 : x.due = false := e1
      rw [e1, Bool.false_or] at hfin
      exact hfin _ rfl
end

end Go.Gx.S
end

section
/- What a loop over a function collects. -/
namespace Go.Gx
open Go
variable {P : Program} {K : Value → World → Prop} {w : World}

theorem upd_own {E sz b0 : Nat} {v : Value} {es : List (List Value)} {o : Obj} (h : OwnE E sz w v es) (hn : ∀ b, blkS v = some b → b0 ≠ b) : OwnE E sz (upd w b0 o) v es :=
  h.frame fun b hb => heap_upd_ne (hn b hb)

/-- while a loop collects into the slot q: its marks lie at s, its own block behind; 'it' is another's -/
structure CI (E sz : Nat) (T : TypeId) (w0 : World) (q s : Nat) (L : Loop) (it : Nat) (es : List (List Value)) (w : World) : Prop where
  slot : ∃ v, w.heap[q]? = some (cellsO [v] T) ∧ OwnE E sz w v es ∧ ∀ b, blkS v = some b → s + 1 < b ∧ b ≠ it
  loop : ∃ L', w.heap[s + 1]? = some (.loop L') ∧ LoopSame L' L ∧ L'.state = .ready ∧ L'.pending = none
  dfr : w.heap[s]? = some (.deferred (some []))
  fr : Fr none_ w0 w
  q0 : w0.heap.size ≤ q
  qs : q < s
  its : s + 1 < it

theorem CI.stay {E sz : Nat} {T : TypeId} {w0 w' : World} {q s it : Nat} {L : Loop} {es : List (List Value)} (h : CI E sz T w0 q s L it es w) (hF : Fr (fun b => b = it) w w') : CI E sz T w0 q s L it es w' := by
  obtain ⟨⟨v, h1, h2, h3⟩, ⟨L', h4, h5⟩, h6, h7, h8, h9, h10⟩ := h
  refine ⟨⟨v, hF.heap h1 (by omega), h2.fr hF (fun b hb => (h3 b hb).2), h3⟩, ⟨L', hF.heap h4 (by omega), h5⟩, hF.heap h6 (by omega), h7.trans_new hF fun b hb e => ?_, h8, h9, h10⟩
  omega

/-- at its start -/
theorem CI.start {E sz : Nat} {T : TypeId} {w0 w' : World} {q it : Nat} {L : Loop} {v : Value} {es : List (List Value)} (hL1 : L.state = .ready) (hL2 : L.pending.isNone = true) (hs : w.heap[q]? = some (cellsO [v] T)) (hv : OwnE E sz w v es) (hvn : blkS v = none)
    (hF : Fr none_ w0 w) (hq : w0.heap.size ≤ q) (hF' : Fr none_ ((w.alloc (.deferred (some []))).alloc (.loop L)) w') (hit : w.heap.size + 2 ≤ it) : CI E sz T w0 q w.heap.size L it es w' := by
  have hlt := lt_of_heap hs
  have hF2 : Fr none_ w ((w.alloc (.deferred (some []))).alloc (.loop L)) := ((Fr.refl _ _).step_alloc rfl).step_alloc rfl
  refine ⟨⟨v, hF'.heap (hF2.heap hs fun h => h) fun h => h, hv.fr (hF2.trans hF') (fun _ _ h => h), fun b hb => by rw [hvn] at hb; cases hb⟩, ⟨L, hF'.heap ?_ fun h => h, ⟨rfl, rfl, rfl, rfl, rfl⟩, hL1, by simpa using hL2⟩, hF'.heap ?_ fun h => h, (hF.trans hF2).trans hF', hq, hlt, by omega⟩
  · have := heap_alloc_new (w.alloc (.deferred (some []))) (.loop L)
    rwa [size_alloc] at this
  · rw [heap_alloc_lt (by rw [size_alloc]; omega)]
    exact heap_alloc_new _ _

/-- a round -/
theorem coll_roundM {T E sz by_ : Nat} {ag : Bool} {z : Value} {ty : TypeId} [hT : SlT P T E] [hs : Sz P E sz ag] [hsT : Sz P T 1 false] [hb : By P E by_] [hz : ZV P E z] {w0 : World} {q s it : Nat} {L : Loop} {es : List (List Value)} {x : List Value} {mid : (Value → World → Prop) → World → Prop}
    (hx : ∀ (K : Value → World → Prop) w1, Fr (fun b => b = s + 1) w w1 → (∀ v' w', OwnE E sz w' v' [x] → Fr none_ w1 w' → New w1 v' → K v' w') → mid K w1) (hone : x.all S.oneCell = true) (hzn : z.cells.size = sz) (hby : 0 < by_) (hroom : (2 * (es.length + 1) + 192) * by_ ≤ 2 ^ 48)
    (h : CI E sz T w0 q s L it es w) (hit : it < w.heap.size) (hK : ∀ w', CI E sz T w0 q s L it (es ++ [x]) w' → Fr (fun b => b ≠ it ∧ w0.heap.size ≤ b) w w' → K (.bool true) w') :
    opS P (S.beginR (pt (s + 1) 0)) (fun _ => opS P (S.ld T (pt q 0)) fun x6 => mid fun x7 => opS P (S.bi .append #[T, T] ty [x6, x7]) fun x8 => opS P (S.st T (pt q 0) x8) fun _ => opS P (S.endR (pt (s + 1) 0) none) K) w := by
  obtain ⟨⟨v, hv, hvO, hvb⟩, ⟨L', hlb, hsame, hst, hpd⟩, hd, hfr, hq, hqs, hits⟩ := h
  have hlt1 := lt_of_heap hlb
  have hsz := hfr.size
  rw [opS_beginR hlb hst]
  have f2 : Fr (fun b => b = s + 1) w (upd w (s + 1) (.loop { L' with state := .busy })) := Fr.upd' hlb rfl _ rfl rfl
  have l2 : (upd w (s + 1) (.loop { L' with state := .busy })).heap[s + 1]? = some (.loop { L' with state := .busy }) := heap_upd_same (by rw [hlb]; rfl)
  generalize upd w (s + 1) (.loop { L' with state := .busy }) = W2 at f2 l2 ⊢
  have v2 : W2.heap[q]? = some (cellsO [v] T) := f2.heap hv (by omega)
  rw [s_ld1, v2, cellAt_cells, List.getElem?_cons_zero, onS_some]
  refine hx _ _ f2 fun vG W3 hG f3 nG => ?_
  have o2 : OwnE E sz W2 v es := hvO.fr f2 (fun b hb => by have := (hvb b hb).1; omega)
  have o3 : OwnE E sz W3 v es := o2.fr f3 (fun _ _ h => h)
  refine s_app (T := T) (T2 := T) (sz := sz) (by_ := by_) hzn hby o3 hG.rd (by simpa using hone) (by simpa using hroom) fun vH W4 hH bH f4 => ?_
  have hvH : ∀ b, blkS vH = some b → s + 1 < b ∧ b ≠ it := fun b hb => by
    rcases bH with bH | bH
    · exact hvb b (bH ▸ hb)
    · have := bH b hb; have := f3.size; have := f2.size; omega
  have v4 : W4.heap[q]? = some (cellsO [v] T) := f4.heap (f3.heap v2 (fun h => h)) (fun h => by have := hvb _ h; omega)
  have l4 : W4.heap[s + 1]? = some (.loop { L' with state := .busy }) := f4.heap (f3.heap l2 (fun h => h)) (fun h => by have := hvb _ h; omega)
  have f5 : Fr (fun b => b = s + 1 ∨ blkS v = some b ∨ b = q) w (wr W4 q 0 [vH]) := by
    refine Fr.step_wr ?_ (.inl (.inr (.inr rfl))) _ _
    refine Fr.trans_new ?_ f4 (fun b _ h => .inr (.inl h))
    exact (f2.mono (fun b _ h => .inl h)).trans_new f3 (fun _ _ h => h.elim)
  rw [s_st1 _ _ _ hH.one, v4, okAt_cells]
  have ok : decide (0 + 1 ≤ [v].length) = true := rfl
  rw [ok, onB_true]
  have v5 : (wr W4 q 0 [vH]).heap[q]? = some (cellsO [vH] T) := by rw [heap_wr, if_pos rfl, v4, putAt_cells]; rfl
  have l5 : (wr W4 q 0 [vH]).heap[s + 1]? = some (.loop { L' with state := .busy }) := by
    rw [heap_wr, if_neg (by omega)]; exact l4
  have o5 : OwnE E sz (wr W4 q 0 [vH]) vH (es ++ [x]) := hH.fr (Fr.wr (fp := fun b => b = q) W4 _ 0 [vH] rfl) (fun b hb e => by have := hvH b hb; omega)
  generalize wr W4 q 0 [vH] = W5 at f5 v5 l5 o5 ⊢
  rw [opS_endR l5]
  have f6 := f5.step_upd l5 rfl (.loop { L' with state := .ready, pending := none }) rfl (.inl (.inl rfl))
  have hfr2 : Fr none_ w0 (upd W5 (s + 1) (.loop { L' with state := .ready, pending := none })) :=
    hfr.trans_new f6 (fun b hb h => by
      rcases h with h | h | h
      · omega
      · have := hvb b h; omega
      · omega)
  refine hK _ ⟨⟨vH, ?_, upd_own o5 (fun b hb => by have := hvH b hb; omega), hvH⟩, ⟨{ L' with state := .ready, pending := none }, heap_upd_same (by rw [l5]; rfl), hsame, rfl, rfl⟩, f6.heap hd ?_, hfr2, hq, hqs, hits⟩ (f6.mono fun b _ h => ?_)
  · rw [heap_upd_ne (by omega)]; exact v5
  · rintro (h | h | h)
    · omega
    · have := hvb _ h; omega
    · omega
  · rcases h with h | h | h
    · omega
    · have := hvb _ h; exact ⟨this.2, by omega⟩
    · omega

theorem coll_round {T E sz by_ : Nat} {ag : Bool} {z : Value} {ty : TypeId} [hT : SlT P T E] [hs : Sz P E sz ag] [hsT : Sz P T 1 false] [hb : By P E by_] [hz : ZV P E z] {w0 : World} {q s it : Nat} {L : Loop} {es : List (List Value)} {x : List Value} {xv : Value}
    (hx : ∀ (K : Value → World → Prop) w, (∀ v' w', OwnE E sz w' v' [x] → Fr none_ w w' → New w v' → K v' w') → opS P (S.buildS T 1 [(0, xv)]) K w) (hone : x.all S.oneCell = true) (hzn : z.cells.size = sz) (hby : 0 < by_) (hroom : (2 * (es.length + 1) + 192) * by_ ≤ 2 ^ 48)
    (h : CI E sz T w0 q s L it es w) (hit : it < w.heap.size) (hK : ∀ w', CI E sz T w0 q s L it (es ++ [x]) w' → Fr (fun b => b ≠ it ∧ w0.heap.size ≤ b) w w' → K (.bool true) w') :
    opS P (S.beginR (pt (s + 1) 0)) (fun _ => opS P (S.ld T (pt q 0)) fun x6 => opS P (S.buildS T 1 [(0, xv)]) fun x7 => opS P (S.bi .append #[T, T] ty [x6, x7]) fun x8 => opS P (S.st T (pt q 0) x8) fun _ => opS P (S.endR (pt (s + 1) 0) none) K) w :=
  coll_roundM (mid := fun K => opS P (S.buildS T 1 [(0, xv)]) K) (fun K w1 _ hk => hx K w1 hk) hone hzn hby hroom h hit hK

/-- at its end -/
theorem coll_end (P : Program) {E sz : Nat} {T : TypeId} {w0 : World} {q s it : Nat} {L : Loop} {es : List (List Value)} (h : CI E sz T w0 q s L it es w) :
    ∃ v w', (Instr.endLoop (s + 1)).run P w = .ok none w' ∧ w'.heap[q]? = some (cellsO [v] T) ∧ OwnE E sz w' v es ∧ (∀ b, blkS v = some b → s + 1 < b) ∧ w'.heap[s]? = some (.deferred (some [])) ∧ Fr none_ w0 w' ∧ q < s ∧ w0.heap.size ≤ q := by
  obtain ⟨⟨v, hv, hvO, hvb⟩, ⟨L', hlb, hsame, hst, hpd⟩, hd, hfr, hq, hqs, hits⟩ := h
  refine ⟨v, _, by rw [run_endLoop hlb (by rw [hst]; decide), hpd], ?_, upd_own hvO fun b hb => by have := (hvb b hb).1; omega, fun b hb => (hvb b hb).1, ?_, hfr.step_upd hlb rfl _ rfl (.inr (by omega)), hqs, hq⟩
  · rw [heap_upd_ne (by omega)]; exact hv
  · rw [heap_upd_ne (by omega)]; exact hd

end Go.Gx
end

section
/- What a loop over a function collects, where some rounds collect nothing. -/
namespace Go.Gx
open Go
variable {P : Program} {K : Value → World → Prop} {w : World}

/-- while a loop collects into the slot q: its marks lie at s, its own block behind -/
structure CJ (E sz : Nat) (T : TypeId) (w0 : World) (q s : Nat) (L : Loop) (busy : Bool) (es : List (List Value)) (w : World) : Prop where
  slot : ∃ v, w.heap[q]? = some (cellsO [v] T) ∧ OwnE E sz w v es ∧ ∀ b, blkS v = some b → s + 1 < b
  loop : ∃ L', w.heap[s + 1]? = some (.loop L') ∧ LoopSame L' L ∧ L'.state = (if busy then .busy else .ready) ∧ L'.pending = none
  dfr : w.heap[s]? = some (.deferred (some []))
  fr : Fr none_ w0 w
  q0 : w0.heap.size ≤ q
  qs : q < s

theorem CJ.stay {E sz : Nat} {T : TypeId} {w0 w' : World} {q s : Nat} {L : Loop} {busy : Bool} {es : List (List Value)} (h : CJ E sz T w0 q s L busy es w) (hF : Fr none_ w w') : CJ E sz T w0 q s L busy es w' := by
  obtain ⟨⟨v, h1, h2, h3⟩, ⟨L', h4, h5⟩, h6, h7, h8, h9⟩ := h
  exact ⟨⟨v, hF.heap h1 (fun h => h), h2.fr hF (fun _ _ h => h), h3⟩, ⟨L', hF.heap h4 (fun h => h), h5⟩, hF.heap h6 (fun h => h), h7.trans hF, h8, h9⟩

theorem CJ.start {E sz : Nat} {T : TypeId} {w0 : World} {q : Nat} {L : Loop} {v : Value} {es : List (List Value)} (hL1 : L.state = .ready) (hL2 : L.pending.isNone = true) (hs : w.heap[q]? = some (cellsO [v] T)) (hv : OwnE E sz w v es) (hvn : blkS v = none)
    (hF : Fr none_ w0 w) (hq : w0.heap.size ≤ q) : CJ E sz T w0 q w.heap.size L false es ((w.alloc (.deferred (some []))).alloc (.loop L)) := by
  have hlt := lt_of_heap hs
  have hF2 : Fr none_ w ((w.alloc (.deferred (some []))).alloc (.loop L)) := ((Fr.refl _ _).step_alloc rfl).step_alloc rfl
  refine ⟨⟨v, hF2.heap hs fun h => h, hv.fr hF2 (fun _ _ h => h), fun b hb => by rw [hvn] at hb; cases hb⟩, ⟨L, ?_, ⟨rfl, rfl, rfl, rfl, rfl⟩, hL1, by simpa using hL2⟩, ?_, hF.trans hF2, hq, hlt⟩
  · have := heap_alloc_new (w.alloc (.deferred (some []))) (.loop L)
    rwa [size_alloc] at this
  · rw [heap_alloc_lt (by rw [size_alloc]; omega)]
    exact heap_alloc_new _ _

theorem cj_begin {E sz : Nat} {T : TypeId} {w0 : World} {q s : Nat} {L : Loop} {es : List (List Value)} (h : CJ E sz T w0 q s L false es w) (hK : ∀ w', CJ E sz T w0 q s L true es w' → Fr (fun b => b = s + 1) w w' → K undef w') : opS P (S.beginR (pt (s + 1) 0)) K w := by
  obtain ⟨⟨v, hv, hvO, hvb⟩, ⟨L', hlb, hsame, hst, hpd⟩, hd, hfr, hq, hqs⟩ := h
  rw [opS_beginR hlb hst]
  have f2 : Fr (fun b => b = s + 1) w (upd w (s + 1) (.loop { L' with state := .busy })) := Fr.upd' hlb rfl _ rfl rfl
  have l2 : (upd w (s + 1) (.loop { L' with state := .busy })).heap[s + 1]? = some (.loop { L' with state := .busy }) := heap_upd_same (by rw [hlb]; rfl)
  exact hK _ ⟨⟨v, f2.heap hv (by omega), upd_own hvO fun b hb => by have := hvb b hb; omega, hvb⟩, ⟨_, l2, hsame, rfl, hpd⟩, f2.heap hd (by omega), hfr.trans_new f2 fun b hb e => by omega, hq, hqs⟩ f2

theorem cj_endR {E sz : Nat} {T : TypeId} {w0 : World} {q s : Nat} {L : Loop} {es : List (List Value)} (h : CJ E sz T w0 q s L true es w) (hK : ∀ w', CJ E sz T w0 q s L false es w' → Fr (fun b => b = s + 1) w w' → K (.bool true) w') : opS P (S.endR (pt (s + 1) 0) none) K w := by
  obtain ⟨⟨v, hv, hvO, hvb⟩, ⟨L', hlb, hsame, hst, hpd⟩, hd, hfr, hq, hqs⟩ := h
  rw [opS_endR hlb]
  have f2 : Fr (fun b => b = s + 1) w (upd w (s + 1) (.loop { L' with state := .ready, pending := none })) := Fr.upd' hlb rfl _ rfl rfl
  have l2 : (upd w (s + 1) (.loop { L' with state := .ready, pending := none })).heap[s + 1]? = some (.loop { L' with state := .ready, pending := none }) := heap_upd_same (by rw [hlb]; rfl)
  exact hK _ ⟨⟨v, f2.heap hv (by omega), upd_own hvO fun b hb => by have := hvb b hb; omega, hvb⟩, ⟨_, l2, hsame, rfl, rfl⟩, f2.heap hd (by omega), hfr.trans_new f2 fun b hb e => by omega, hq, hqs⟩ f2

theorem cj_append {T E sz by_ : Nat} {ag : Bool} {z : Value} {ty : TypeId} [hT : SlT P T E] [hs : Sz P E sz ag] [hsT : Sz P T 1 false] [hb : By P E by_] [hz : ZV P E z] {w0 : World} {q s : Nat} {L : Loop} {es : List (List Value)} {x : List Value} {mid : (Value → World → Prop) → World → Prop}
    (hx : ∀ (K : Value → World → Prop), (∀ v' w', OwnE E sz w' v' [x] → Fr none_ w w' → New w v' → K v' w') → mid K w) (hone : x.all S.oneCell = true) (hzn : z.cells.size = sz) (hby : 0 < by_) (hroom : (2 * (es.length + 1) + 192) * by_ ≤ 2 ^ 48)
    (h : CJ E sz T w0 q s L true es w) (hK : ∀ w', CJ E sz T w0 q s L true (es ++ [x]) w' → Fr (fun b => b = q ∨ s + 1 < b) w w' → K undef w') :
    opS P (S.ld T (pt q 0)) (fun x6 => mid fun x7 => opS P (S.bi .append #[T, T] ty [x6, x7]) fun x8 => opS P (S.st T (pt q 0) x8) K) w := by
  obtain ⟨⟨v, hv, hvO, hvb⟩, ⟨L', hlb, hsame, hst, hpd⟩, hd, hfr, hq, hqs⟩ := h
  have hlt1 := lt_of_heap hlb
  have hsz := hfr.size
  rw [s_ld1, hv, cellAt_cells, List.getElem?_cons_zero, onS_some]
  refine hx _ fun vG W3 hG f3 nG => ?_
  have o3 : OwnE E sz W3 v es := hvO.fr f3 (fun _ _ h => h)
  have hs3 := f3.size
  refine s_app (T := T) (T2 := T) (sz := sz) (by_ := by_) hzn hby o3 hG.rd (by simpa using hone) (by simpa using hroom) fun vH W4 hH bH f4 => ?_
  have hvH : ∀ b, blkS vH = some b → s + 1 < b := fun b hb => by
    rcases bH with bH | bH
    · exact hvb b (bH ▸ hb)
    · have := bH b hb; omega
  have v4 : W4.heap[q]? = some (cellsO [v] T) := f4.heap (f3.heap hv (fun h => h)) (fun h => by have := hvb _ h; omega)
  have l4 : W4.heap[s + 1]? = some (.loop L') := f4.heap (f3.heap hlb (fun h => h)) (fun h => by have := hvb _ h; omega)
  have f5 : Fr (fun b => b = q ∨ s + 1 < b) w (wr W4 q 0 [vH]) := by
    refine Fr.step_wr (fp := fun b => b = q ∨ s + 1 < b) ?_ (.inl (.inl rfl)) _ _
    exact (f3.mono (fun _ _ h => h.elim)).trans_new f4 (fun b _ h => .inr (hvb b h))
  rw [s_st1 _ _ _ hH.one, v4, okAt_cells]
  have ok : decide (0 + 1 ≤ [v].length) = true := rfl
  rw [ok, onB_true]
  have v5 : (wr W4 q 0 [vH]).heap[q]? = some (cellsO [vH] T) := by rw [heap_wr, if_pos rfl, v4, putAt_cells]; rfl
  have l5 : (wr W4 q 0 [vH]).heap[s + 1]? = some (.loop L') := by
    rw [heap_wr, if_neg (by omega)]; exact l4
  have o5 : OwnE E sz (wr W4 q 0 [vH]) vH (es ++ [x]) := hH.fr (Fr.wr (fp := fun b => b = q) W4 _ 0 [vH] rfl) (fun b hb e => by have := hvH b hb; omega)
  exact hK _ ⟨⟨vH, v5, o5, hvH⟩, ⟨L', l5, hsame, hst, hpd⟩, f5.heap hd (by omega), hfr.trans_new f5 fun b hb e => by omega, hq, hqs⟩ f5

theorem cj_end (P : Program) {E sz : Nat} {T : TypeId} {w0 : World} {q s : Nat} {L : Loop} {es : List (List Value)} (h : CJ E sz T w0 q s L false es w) :
    ∃ v w', (Instr.endLoop (s + 1)).run P w = .ok none w' ∧ w'.heap[q]? = some (cellsO [v] T) ∧ OwnE E sz w' v es ∧ (∀ b, blkS v = some b → s + 1 < b) ∧ w'.heap[s]? = some (.deferred (some [])) ∧ Fr none_ w0 w' ∧ Fr (fun b => b = s + 1) w w' := by
  obtain ⟨⟨v, hv, hvO, hvb⟩, ⟨L', hlb, hsame, hst, hpd⟩, hd, hfr, hq, hqs⟩ := h
  have hst : L'.state = .ready := hst
  refine ⟨v, _, by rw [run_endLoop hlb (by rw [hst]; decide), hpd], ?_, upd_own hvO fun b hb => by have := hvb b hb; omega, hvb, ?_, hfr.step_upd hlb rfl _ rfl (.inr (by omega)), Fr.upd' hlb rfl _ rfl rfl⟩
  · rw [heap_upd_ne (by omega)]; exact hv
  · rw [heap_upd_ne (by omega)]; exact hd

end Go.Gx
end

section
/- Links of which something is true; the first of these; their ports. -/
set_option linter.unusedVariables false
set_option linter.unusedSimpArgs false
set_option maxRecDepth 100000
namespace Go.Gx.S
open Go Go.Gx Go.Proofs
variable {K : Value → World → Prop} {w : World}

/-! ### Pointers that may be nil -/

instance : PtT Try.prog 108 := ⟨_, _, Try.underlying108, rfl, by decide⟩

instance : Sz Try.prog 136 1 false := ⟨Try.sizeOf136, Try.isAgg136⟩

def ptO : Option Nat → Value
  | none => .pointer none
  | some b => pt b 0
theorem ptO_one (x : Option Nat) : S.oneCell (ptO x) = true := by cases x <;> rfl
attribute [push_cast] ptO_one

theorem s_neNil {T : TypeId} [hT : PtT Try.prog T] {x : Option Nat} (h : K (.bool x.isSome) w) : opS Try.prog (S.binG .neq T (ptO x) (.pointer none)) K w := by
  obtain ⟨E, j, hp, hte, hsz⟩ := hT.und
  have hr : (Op.equal T (ptO x) (.pointer none)).run Try.prog w = .ok (!x.isSome) w := by
    have h : ∀ d : Nat, (Op.equalIn (d + 1) T (ptO x) (.pointer none)).run Try.prog w = .ok (!x.isSome) w := fun d => by
      cases x <;> simp [Op.equalIn, run_underlying hp, ptO, pt]
    simp [Op.equal, Op.maxDepth, h 9999]
  cases x with
  | none =>
    unfold opS S.binG ptO
    simp only []
    have hg : ∀ op, (eqGuard op T (.tmp 0) (.tmp 0) (.pointer none) (.pointer none)).run Try.prog w = .ok () w := fun op => by cases op <;> rfl
    rw [Sem.run_bind, hg, Result.andThen_ok, Sem.run_bind]
    simp only [binOp]
    have hr : (Op.equal T (.pointer none) (.pointer none)).run Try.prog w = .ok true w := hr
    rw [Sem.run_bind, hr, Result.andThen_ok]
    exact h
  | some b =>
    unfold opS S.binG ptO pt
    simp only []
    have hg : ∀ op, (eqGuard op T (.tmp 0) (.tmp 0) (.pointer (some ⟨b, 0, none⟩)) (.pointer none)).run Try.prog w = .ok () w := fun op => by cases op <;> rfl
    rw [Sem.run_bind, hg, Result.andThen_ok, Sem.run_bind]
    simp only [binOp]
    have hr : (Op.equal T (.pointer (some ⟨b, 0, none⟩)) (.pointer none)).run Try.prog w = .ok false w := hr
    rw [Sem.run_bind, hr, Result.andThen_ok]
    exact h

theorem or_spec {v : Value} {x y : Option Nat} (hv : RdE 1 w v [[ptO x], [ptO y]]) (hk : K (ptO (x <|> y)) w) : CallsR Try.prog 86 #[v] K w := by
  apply c86
  unfold p86
  obtain ⟨a, c, rfl⟩ := hv.form
  have hlen : ([[ptO x], [ptO y]] : List (List Value)).length = 2 := rfl
  rw [hlen]
  simp only [push_cast, Nat.reduceAdd, Nat.reduceLeDiff, Nat.reduceLT, Int.reduceToNat, Nat.left_eq_add, Nat.add_eq_left, Nat.add_left_cancel_iff, Nat.reduceEqDiff, Nat.add_assoc, Nat.succ_ne_zero]
  refine jn0 (fun W => W = w ∧ x = none ∧ y = none) (fun W ⟨e, e1, e2⟩ => ?_) fun j hj => ?_
  · subst e e1 e2; exact hk
  refine loop1 (fun n u W => ∃ i : Nat, u = i64 i ∧ i + n = 2 ∧ W = w ∧ ∀ z ∈ [x, y].take i, z = none) ?_ 2 ⟨0, rfl, by omega, rfl, by simp⟩
  rintro n u W X ⟨i, rfl, hi, rfl, ho⟩ hX
  simp only [push_cast, Nat.reduceAdd, Nat.reduceLeDiff, Nat.reduceLT, Int.reduceToNat, Nat.left_eq_add, Nat.add_eq_left, Nat.add_left_cancel_iff, Nat.reduceEqDiff, Nat.add_assoc, Nat.succ_ne_zero]
  refine br_dec (fun hlt => ?_) fun hge => ?_
  · have hil : i < [x, y].length := by show i < 2; omega
    have hi2 : i < [[ptO x], [ptO y]].length := by show i < 2; omega
    have hge : [[ptO x], [ptO y]][i] = [ptO [x, y][i]] := by
      rcases (show i = 0 ∨ i = 1 by omega) with rfl | rfl <;> rfl
    refine s_iaE (es := [[ptO x], [ptO y]]) hv (by omega) (by simpa using hi2) fun b1 o1 c1 _ hE => ?_
    simp only [Int.toNat_natCast] at hE ⊢
    rw [hge] at hE
    have h0 := hE.cell0 (by show 0 < 1; decide)
    simp only [push_cast, Nat.reduceAdd, Nat.reduceLeDiff, Nat.reduceLT, Int.reduceToNat, Nat.left_eq_add, Nat.add_eq_left, Nat.add_left_cancel_iff, Nat.reduceEqDiff, Nat.add_assoc, Nat.succ_ne_zero, h0, List.getElem?_cons_zero]
    refine s_neNil ?_
    have hwk : IntKind.i64.wrap ((i : Int) + 1) = ((i + 1 : Nat) : Int) := by rw [wrap_i64 (by omega)]; rfl
    simp only [push_cast, Nat.reduceAdd, Nat.reduceLeDiff, Nat.reduceLT, Int.reduceToNat, Nat.left_eq_add, Nat.add_eq_left, Nat.add_left_cancel_iff, Nat.reduceEqDiff, Nat.add_assoc, Nat.succ_ne_zero, hwk]
    have ho2 : ∀ z : Option Nat, [x, y][i] = z → (z.isSome = true → (x <|> y) = z) := fun z hz hs => by
      rcases (show i = 0 ∨ i = 1 by omega) with rfl | rfl
      · have hz : x = z := hz
        subst hz
        cases x with
        | none => cases hs
        | some b => rfl
      · have hz : y = z := hz
        have : x = none := ho x (by simp)
        rw [this, ← hz]; rfl
    refine br_intro (fun e => ?_) fun e => ?_
    · have := ho2 _ rfl e
      rw [this] at hk
      exact hk
    · refine hX (n - 1) _ _ (by omega) ⟨i + 1, rfl, by omega, rfl, take_all hil ho ?_⟩
      cases hz : [x, y][i] with
      | none => rfl
      | some b => rw [hz] at e; cases e
  · have e : i = 2 := by omega
    subst e
    exact hj _ ⟨rfl, ho x (by simp), ho y (by simp)⟩

/-! ### Those -/

theorem those1_spec {c1 c2 g n : Nat} {fv pv y : Value} {bs : List B3} (I : Nat → World → Prop) (Z : World → Prop) (pk : Nat → Bool)
    (hb : ∀ i W, I i W → W.heap[c1]? = some (cellsO [pt g 0] 54) ∧ W.heap[c2]? = some (cellsO [fv] 136))
    (hg : ∀ i W, I i W → ∃ s, CG W g bs pv s ∧ s.l.length = n) (hn : n ≤ 32)
    (his : ∀ i t W R, i < n → bs[i]? = some t → I i W → (∀ W', I i W' → R (.bool (pk i)) W') → opS Try.prog (S.call fv [pt t.b 0]) R W)
    (hs : ∀ i W, i < n → pk i = false → I i W → I (i + 1) W)
    (hy : ∀ i t W KY, i < n → bs[i]? = some t → pk i = true → I i W → (∀ W', I (i + 1) W' → KY (.bool true) W') → (∀ W', Z W' → KY (.bool false) W') → opS Try.prog (S.call y [pt t.b 0]) KY W)
    (h0 : I 0 w) (h : ∀ W, I n W ∨ Z W → K (.tuple #[]) W) : CallsR Try.prog 101 #[y, pt c1 0, pt c2 0] K w := by
  apply c101
  unfold p101
  obtain ⟨q1, q2⟩ := hb 0 w h0
  obtain ⟨s, hs0, hsn⟩ := hg 0 w h0
  simp only [push_cast, Nat.reduceAdd, Nat.reduceLeDiff, Nat.reduceLT, Int.reduceToNat, Nat.left_eq_add, Nat.add_eq_left, Nat.add_left_cancel_iff, Nat.reduceEqDiff, Nat.add_assoc, Nat.succ_ne_zero, q1, hs0.main]
  rw [hs0.lenv, hsn]
  refine jn0 (fun W => I n W ∨ Z W) h fun j hj => ?_
  refine loop1 (fun m u W => ∃ i : Nat, u = i64 i ∧ i + m = n ∧ I i W) ?_ n ⟨0, rfl, by omega, h0⟩
  rintro m u W X ⟨i, rfl, hi, hI⟩ hX
  simp only [push_cast, Nat.reduceAdd, Nat.reduceLeDiff, Nat.reduceLT, Int.reduceToNat, Nat.left_eq_add, Nat.add_eq_left, Nat.add_left_cancel_iff, Nat.reduceEqDiff, Nat.add_assoc, Nat.succ_ne_zero]
  refine br_dec (fun hlt => ?_) fun hge => ?_
  · have hil : i < n := by omega
    obtain ⟨q1, q2⟩ := hb i W hI
    obtain ⟨s, hs0, hsn⟩ := hg i W hI
    obtain ⟨t, ht, hx, hl⟩ := hs0.get (i := i) (by omega)
    have hwk : IntKind.i64.wrap ((i : Int) + 1) = ((i + 1 : Nat) : Int) := by rw [wrap_i64 (by omega)]; rfl
    refine hs0.ld ht ?_
    simp only [push_cast, Nat.reduceAdd, Nat.reduceLeDiff, Nat.reduceLT, Int.reduceToNat, Nat.left_eq_add, Nat.add_eq_left, Nat.add_left_cancel_iff, Nat.reduceEqDiff, Nat.add_assoc, Nat.succ_ne_zero, q2, hwk]
    refine his i t W _ hil ht hI fun W2 hI2 => ?_
    simp only [push_cast, Nat.reduceAdd, Nat.reduceLeDiff, Nat.reduceLT, Int.reduceToNat, Nat.left_eq_add, Nat.add_eq_left, Nat.add_left_cancel_iff, Nat.reduceEqDiff, Nat.add_assoc, Nat.succ_ne_zero]
    refine br_intro (fun e => ?_) fun e => ?_
    · refine hy i t W2 _ hil ht e hI2 (fun W3 hI3 => ?_) fun W3 hZ => ?_
      · simp only [push_cast, Nat.reduceAdd, Nat.reduceLeDiff, Nat.reduceLT, Int.reduceToNat, Nat.left_eq_add, Nat.add_eq_left, Nat.add_left_cancel_iff, Nat.reduceEqDiff, Nat.add_assoc, Nat.succ_ne_zero, Bool.not_true]
        exact hX (m - 1) _ _ (by omega) ⟨i + 1, by rw [hwk], by omega, hI3⟩
      · simp only [push_cast, Nat.reduceAdd, Nat.reduceLeDiff, Nat.reduceLT, Int.reduceToNat, Nat.left_eq_add, Nat.add_eq_left, Nat.add_left_cancel_iff, Nat.reduceEqDiff, Nat.add_assoc, Nat.succ_ne_zero, Bool.not_false]
        exact h W3 (.inr hZ)
    · exact hX (m - 1) _ _ (by omega) ⟨i + 1, by rw [hwk], by omega, hs i W2 hil e hI2⟩
  · have e : i = n := by omega
    subst e
    exact hj _ (.inl hI)

theorem those_spec {g : Nat} {fv : Value} (hone : S.oneCell fv = true) (hcs : fv.cells = [fv].toArray) (hk : ∀ w', w'.heap[w.heap.size]? = some (cellsO [pt g 0] 54) → w'.heap[w.heap.size + 1]? = some (cellsO [fv] 136) → Fr none_ w w' → w'.heap.size = w.heap.size + 2 → K (.func (.func 101) #[] #[pt w.heap.size 0, pt (w.heap.size + 1) 0]) w') :
    CallsR Try.prog 65 #[pt g 0, fv] K w := by
  apply c65
  unfold p65
  have hne : w.heap.size ≠ w.heap.size + 1 := by omega
  simp only [push_cast, Nat.reduceAdd, Nat.reduceLeDiff, Nat.reduceLT, Int.reduceToNat, Nat.left_eq_add, Nat.add_eq_left, Nat.add_left_cancel_iff, Nat.reduceEqDiff, Nat.add_assoc, Nat.succ_ne_zero, hcs, hne]
  refine hk _ (by simp only [push_cast, Nat.reduceAdd, Nat.reduceLeDiff, Nat.reduceLT, Int.reduceToNat, Nat.left_eq_add, Nat.add_eq_left, Nat.add_left_cancel_iff, Nat.reduceEqDiff, Nat.add_assoc, Nat.succ_ne_zero, hne]) (by simp only [push_cast, Nat.reduceAdd, Nat.reduceLeDiff, Nat.reduceLT, Int.reduceToNat, Nat.left_eq_add, Nat.add_eq_left, Nat.add_left_cancel_iff, Nat.reduceEqDiff, Nat.add_assoc, Nat.succ_ne_zero]) (by repeat' first | with_reducible exact Fr.refl _ _ | with_reducible refine Fr.step_alloc ?_ ?_ | with_reducible refine Fr.step_drew ?_ | with_reducible refine Fr.step_wr ?_ ?_ _ _ | exact rfl | exact Or.inr (by omega) | exact Or.inl rfl | exact Or.inl (Or.inl rfl) | exact Or.inl (Or.inr rfl)) (by simp only [push_cast, Nat.reduceAdd, Nat.reduceLeDiff, Nat.reduceLT, Int.reduceToNat, Nat.left_eq_add, Nat.add_eq_left, Nat.add_left_cancel_iff, Nat.reduceEqDiff, Nat.add_assoc, Nat.succ_ne_zero])

section
variable {g : Nat} {bs : List B3} {pv fv : Value} {s : Grp}

/-- what a function tells of a link -/
def Tells (fv : Value) (pk : Lk → Bool) : Prop := ∀ (t : B3) (x : Lk) (W : World) (R : Value → World → Prop), CLk W t x → (∀ W', Fr none_ W W' → R (.bool (pk x)) W') → opS Try.prog (S.call fv [pt t.b 0]) R W
theorem tells_chosen : Tells (.func (.func 88) #[] #[]) (·.picked) := fun t x W R h hk => by
  rw [opS_call]
  exact chosen_spec h (hk W (Fr.refl _ _))
theorem tells_sound : Tells (.func (.func 85) #[] #[]) Lk.sound := fun t x W R h hk => by
  rw [opS_call]
  exact sound_spec h hk
theorem tells_up : Tells (.func (.func 66) #[] #[]) (fun x => decide (x.m.state = 4)) := fun t x W R h hk => by
  rw [opS_call]
  exact up1_spec h (hk W (Fr.refl _ _))

theorem first_spec {pk : Lk → Bool} (h : CG w g bs pv s) (hn : s.l.length ≤ 32) (hone : S.oneCell fv = true) (hcs : fv.cells = [fv].toArray) (hT : Tells fv pk)
    (h0 : s.l.findIdx? pk = none → ∀ w', Fr none_ w w' → K (.pointer none) w')
    (h1 : ∀ i t x, s.l.findIdx? pk = some i → bs[i]? = some t → s.l[i]? = some x → ∀ w', Fr none_ w w' → K (pt t.b 0) w') : CallsR Try.prog 87 #[pt g 0, fv] K w := by
  apply c87
  unfold p87
  simp only [push_cast, Nat.reduceAdd, Nat.reduceLeDiff, Nat.reduceLT, Int.reduceToNat, Nat.left_eq_add, Nat.add_eq_left, Nat.add_left_cancel_iff, Nat.reduceEqDiff, Nat.add_assoc, Nat.succ_ne_zero]
  have hF0 : Fr none_ w (w.alloc (cellsO [.pointer none] 108)) := (by repeat' first | with_reducible exact Fr.refl _ _ | with_reducible refine Fr.step_alloc ?_ ?_ | with_reducible refine Fr.step_drew ?_ | with_reducible refine Fr.step_wr ?_ ?_ _ _ | exact rfl | exact Or.inr (by omega) | exact Or.inl rfl | exact Or.inl (Or.inl rfl) | exact Or.inl (Or.inr rfl))
  have q0 : (w.alloc (cellsO [.pointer none] 108)).heap[w.heap.size]? = some (cellsO [.pointer none] 108) := by simp only [push_cast, Nat.reduceAdd, Nat.reduceLeDiff, Nat.reduceLT, Int.reduceToNat, Nat.left_eq_add, Nat.add_eq_left, Nat.add_left_cancel_iff, Nat.reduceEqDiff, Nat.add_assoc, Nat.succ_ne_zero]
  generalize hw0 : w.alloc (cellsO [.pointer none] 108) = w0 at *
  refine those_spec hone hcs fun w1 q1 q2 hF1 hs1 => ?_
  have q0 := hF1.heap q0 fun h => h
  have hq : w.heap.size < w0.heap.size := by have := hF0.size; rw [← hw0, size_alloc]; omega
  have hF := hF0.trans hF1
  generalize hqe : w.heap.size = q at *
  generalize hce : w0.heap.size = c1 at *
  intro L hL1 hL2 hL3 hyield
  rw [enterS_call]
  have hF2 : Fr none_ w1 ((w1.alloc (.deferred (some []))).alloc (.loop L)) := ((Fr.refl _ _).step_alloc rfl).step_alloc rfl
  have hl2 : ((w1.alloc (.deferred (some []))).alloc (.loop L)).heap[w1.heap.size + 1]? = some (.loop L) := by
    have := heap_alloc_new (w1.alloc (.deferred (some []))) (.loop L)
    rwa [size_alloc] at this
  have hd2 : ((w1.alloc (.deferred (some []))).alloc (.loop L)).heap[w1.heap.size]? = some (.deferred (some [])) := by
    rw [heap_alloc_lt (by rw [size_alloc]; omega)]
    exact heap_alloc_new _ _
  generalize hW : (w1.alloc (.deferred (some []))).alloc (.loop L) = W0 at *
  generalize hsb : w1.heap.size = sb at *
  have hqS : q < sb := by omega
  refine those1_spec (bs := bs) (pv := pv) (fv := fv) (g := g) (n := s.l.length) (fun i W => (∀ x ∈ s.l.take i, pk x = false) ∧ Fr none_ w W ∧ W.heap[q]? = some (cellsO [.pointer none] 108) ∧ W.heap[c1]? = some (cellsO [pt g 0] 54) ∧ W.heap[c1 + 1]? = some (cellsO [fv] 136) ∧ W.heap[sb + 1]? = some (.loop L) ∧ W.heap[sb]? = some (.deferred (some [])))
    (fun W => ∃ i t x L', s.l.findIdx? pk = some i ∧ bs[i]? = some t ∧ s.l[i]? = some x ∧ Fr none_ w W ∧ W.heap[q]? = some (cellsO [pt t.b 0] 108) ∧ W.heap[sb + 1]? = some (.loop L') ∧ L'.state = .done ∧ L'.pending = some .ret ∧ W.heap[sb]? = some (.deferred (some [])))
    (fun i => match s.l[i]? with | some x => pk x | none => false) ?_ ?_ hn ?_ ?_ ?_ ?_ ?_
  · rintro i W ⟨_, _, _, a, b, _⟩; exact ⟨a, b⟩
  · rintro i W ⟨_, a, _⟩; exact ⟨s, h.fr0 a, rfl⟩
  · rintro i t W R hi ht ⟨a0, a1, a2, a3, a4, a5, a6⟩ hR
    have hx : s.l[i]? = some s.l[i] := List.getElem?_eq_getElem hi
    refine hT t _ W R ((h.fr0 a1).lk i t _ ht hx) fun W' f => ?_
    have := hR W' ⟨a0, a1.trans f, f.heap a2 fun h => h, f.heap a3 fun h => h, f.heap a4 fun h => h, f.heap a5 fun h => h, f.heap a6 fun h => h⟩
    rw [hx] at this
    exact this
  · rintro i W hi hp ⟨a0, a⟩
    have hx : s.l[i]? = some s.l[i] := List.getElem?_eq_getElem hi
    rw [hx] at hp
    exact ⟨take_all hi a0 hp, a⟩
  · rintro i t W KY hi ht hp ⟨a0, a1, a2, a3, a4, a5, a6⟩ _ hZ
    have hx : s.l[i]? = some s.l[i] := List.getElem?_eq_getElem hi
    rw [hx] at hp
    refine hyield KY [pt t.b 0] W L hL1 ⟨rfl, rfl, rfl, rfl, rfl⟩ a5 rfl ?_
    show opS Try.prog (S.beginR (pt (sb + 1) 0)) _ W
    rw [opS_beginR a5 hL1]
    have f2 : Fr none_ w (upd W (sb + 1) (.loop { L with state := .busy })) := a1.step_upd a5 rfl _ rfl (.inr (by have := hF.size; omega))
    have l2 : (upd W (sb + 1) (.loop { L with state := .busy })).heap[sb + 1]? = some (.loop { L with state := .busy }) := heap_upd_same (by rw [a5]; rfl)
    have v2 : (upd W (sb + 1) (.loop { L with state := .busy })).heap[q]? = some (cellsO [.pointer none] 108) := by rw [heap_upd_ne (by omega)]; exact a2
    have d2 : (upd W (sb + 1) (.loop { L with state := .busy })).heap[sb]? = some (.deferred (some [])) := by rw [heap_upd_ne (by omega)]; exact a6
    generalize upd W (sb + 1) (.loop { L with state := .busy }) = W2 at *
    simp only [push_cast, Nat.reduceAdd, Nat.reduceLeDiff, Nat.reduceLT, Int.reduceToNat, Nat.left_eq_add, Nat.add_eq_left, Nat.add_left_cancel_iff, Nat.reduceEqDiff, Nat.add_assoc, Nat.succ_ne_zero, v2]
    have l3 : (wr W2 q 0 [pt t.b 0]).heap[sb + 1]? = some (.loop { L with state := .busy }) := by rw [heap_wr, if_neg (by omega)]; exact l2
    have d3 : (wr W2 q 0 [pt t.b 0]).heap[sb]? = some (.deferred (some [])) := by rw [heap_wr, if_neg (by omega)]; exact d2
    have v3 : (wr W2 q 0 [pt t.b 0]).heap[q]? = some (cellsO [pt t.b 0] 108) := by rw [heap_wr, if_pos rfl, v2, putAt_cells]; rfl
    have f3 : Fr none_ w (wr W2 q 0 [pt t.b 0]) := f2.step_wr (.inr (by have := hF0.size; omega)) _ _
    generalize wr W2 q 0 [pt t.b 0] = W3 at *
    show opS Try.prog (S.endR (pt (sb + 1) 0) _) _ _
    rw [opS_endR l3]
    refine hZ _ ⟨i, t, _, { L with state := .done, pending := some .ret }, findIdx_at hi a0 hp, ht, hx, f3.step_upd l3 rfl _ rfl (.inr (by have := hF.size; omega)), by rw [heap_upd_ne (by omega)]; exact v3, heap_upd_same (by rw [l3]; rfl), rfl, rfl, by rw [heap_upd_ne (by omega)]; exact d3⟩
  · exact ⟨by simp, hF.trans hF2, hF2.heap q0 fun h => h, hF2.heap q1 fun h => h, hF2.heap q2 fun h => h, hl2, hd2⟩
  · rintro W (⟨a0, a1, a2, a3, a4, a5, a6⟩ | ⟨i, t, x, L', b0, b1, b2, b3, b4, b5, b6, b7, b8⟩)
    · rw [List.take_length] at a0
      have hp : L.pending = none := by simpa using hL3
      have hrun : (Instr.endLoop (sb + 1)).run Try.prog W = .ok none (upd W (sb + 1) (.loop { L with state := .exhausted })) := (run_endLoop a5 (by rw [hL1]; decide)).trans (congrArg (fun x => Result.ok x (upd W (sb + 1) (.loop { L with state := .exhausted }))) hp)
      have v2 : (upd W (sb + 1) (.loop { L with state := .exhausted })).heap[q]? = some (cellsO [.pointer none] 108) := by rw [heap_upd_ne (by omega)]; exact a2
      have d2 : (upd W (sb + 1) (.loop { L with state := .exhausted })).heap[sb]? = some (.deferred (some [])) := by rw [heap_upd_ne (by omega)]; exact a6
      have f2 : Fr none_ w (upd W (sb + 1) (.loop { L with state := .exhausted })) := a1.step_upd a5 rfl _ rfl (.inr (by have := hF.size; omega))
      generalize upd W (sb + 1) (.loop { L with state := .exhausted }) = W2 at *
      refine ⟨none, W2, hrun, ?_⟩
      simp only [push_cast, Nat.reduceAdd, Nat.reduceLeDiff, Nat.reduceLT, Int.reduceToNat, Nat.left_eq_add, Nat.add_eq_left, Nat.add_left_cancel_iff, Nat.reduceEqDiff, Nat.add_assoc, Nat.succ_ne_zero, v2]
      show opS Try.prog (S.take (pt sb 0)) _ _
      have d3 : (wr W2 q 0 [.pointer none]).heap[sb]? = some (.deferred (some [])) := by rw [heap_wr, if_neg (by omega)]; exact d2
      have v3 : (wr W2 q 0 [.pointer none]).heap[q]? = some (cellsO [.pointer none] 108) := by rw [heap_wr, if_pos rfl, v2, putAt_cells]; rfl
      have f3 : Fr none_ w (wr W2 q 0 [.pointer none]) := f2.step_wr (.inr (by have := hF0.size; omega)) _ _
      generalize wr W2 q 0 [.pointer none] = W3 at *
      rw [opS_take d3]
      have v4 : (upd W3 sb (.deferred none)).heap[q]? = some (cellsO [.pointer none] 108) := by rw [heap_upd_ne (by omega)]; exact v3
      simp only [push_cast, Nat.reduceAdd, Nat.reduceLeDiff, Nat.reduceLT, Int.reduceToNat, Nat.left_eq_add, Nat.add_eq_left, Nat.add_left_cancel_iff, Nat.reduceEqDiff, Nat.add_assoc, Nat.succ_ne_zero, v4]
      exact h0 (findIdx_no a0) _ (f3.step_upd d3 rfl _ rfl (.inr (by have := hF.size; omega)))
    · have hrun : (Instr.endLoop (sb + 1)).run Try.prog W = .ok (some .ret) (upd W (sb + 1) (.loop { L' with state := .exhausted })) := (run_endLoop b5 (by rw [b6]; decide)).trans (congrArg (fun x => Result.ok x (upd W (sb + 1) (.loop { L' with state := .exhausted }))) b7)
      have v2 : (upd W (sb + 1) (.loop { L' with state := .exhausted })).heap[q]? = some (cellsO [pt t.b 0] 108) := by rw [heap_upd_ne (by omega)]; exact b4
      have d2 : (upd W (sb + 1) (.loop { L' with state := .exhausted })).heap[sb]? = some (.deferred (some [])) := by rw [heap_upd_ne (by omega)]; exact b8
      have f2 : Fr none_ w (upd W (sb + 1) (.loop { L' with state := .exhausted })) := b3.step_upd b5 rfl _ rfl (.inr (by have := hF.size; omega))
      generalize upd W (sb + 1) (.loop { L' with state := .exhausted }) = W2 at *
      refine ⟨some .ret, W2, hrun, ?_⟩
      simp only []
      show opS Try.prog (S.take (pt sb 0)) _ _
      rw [opS_take d2]
      have v4 : (upd W2 sb (.deferred none)).heap[q]? = some (cellsO [pt t.b 0] 108) := by rw [heap_upd_ne (by omega)]; exact v2
      simp only [push_cast, Nat.reduceAdd, Nat.reduceLeDiff, Nat.reduceLT, Int.reduceToNat, Nat.left_eq_add, Nat.add_eq_left, Nat.add_left_cancel_iff, Nat.reduceEqDiff, Nat.add_assoc, Nat.succ_ne_zero, v4]
      exact h1 i t x b0 b1 b2 _ (f2.step_upd d2 rfl _ rfl (.inr (by have := hF.size; omega)))
end

end Go.Gx.S
end

section
/- The ports of those links; the partner. -/
set_option linter.unusedVariables false
set_option linter.unusedSimpArgs false
set_option maxRecDepth 100000
namespace Go.Gx.S
open Go Go.Gx Go.Proofs
variable {K : Value → World → Prop} {w : World}

theorem cj_append2 {P : Program} {T E sz by_ : Nat} {ag : Bool} {z : Value} {ty : TypeId} [hT : SlT P T E] [hs : Sz P E sz ag] [hsT : Sz P T 1 false] [hb : By P E by_] [hz : ZV P E z] {w0 : World} {q s : Nat} {L : Loop} {es : List (List Value)} {x : List Value} {mid : (Value → World → Prop) → World → Prop}
    (hx : ∀ (K : Value → World → Prop), (∀ v' w', OwnE E sz w' v' [x] → Fr none_ w w' → New w v' → K v' w') → mid K w) (hone : x.all S.oneCell = true) (hzn : z.cells.size = sz) (hby : 0 < by_) (hroom : (2 * (es.length + 1) + 192) * by_ ≤ 2 ^ 48)
    (h : CJ E sz T w0 q s L true es w) (hK : ∀ w', CJ E sz T w0 q s L true (es ++ [x]) w' → Fr (fun b => b = q ∨ s + 1 < b) w w' → K undef w') :
    mid (fun x7 => opS P (S.ld T (pt q 0)) fun x6 => opS P (S.bi .append #[T, T] ty [x6, x7]) fun x8 => opS P (S.st T (pt q 0) x8) K) w := by
  refine hx _ fun vG W3 hG f3 nG => ?_
  obtain ⟨⟨v, hv, hvO, hvb⟩, ⟨L', hlb, hsame, hst, hpd⟩, hd, hfr, hq, hqs⟩ := h
  have hlt1 := lt_of_heap hlb
  have hsz := hfr.size
  have v3 : W3.heap[q]? = some (cellsO [v] T) := f3.heap hv fun h => h
  rw [s_ld1, v3, cellAt_cells, List.getElem?_cons_zero, onS_some]
  have o3 : OwnE E sz W3 v es := hvO.fr f3 (fun _ _ h => h)
  have hs3 := f3.size
  refine s_app (T := T) (T2 := T) (sz := sz) (by_ := by_) hzn hby o3 hG.rd (by simpa using hone) (by simpa using hroom) fun vH W4 hH bH f4 => ?_
  have hvH : ∀ b, blkS vH = some b → s + 1 < b := fun b hb => by
    rcases bH with bH | bH
    · exact hvb b (bH ▸ hb)
    · have := bH b hb; omega
  have v4 : W4.heap[q]? = some (cellsO [v] T) := f4.heap v3 (fun h => by have := hvb _ h; omega)
  have l4 : W4.heap[s + 1]? = some (.loop L') := f4.heap (f3.heap hlb (fun h => h)) (fun h => by have := hvb _ h; omega)
  have f5 : Fr (fun b => b = q ∨ s + 1 < b) w (wr W4 q 0 [vH]) := by
    refine Fr.step_wr (fp := fun b => b = q ∨ s + 1 < b) ?_ (.inl (.inl rfl)) _ _
    exact (f3.mono (fun _ _ h => h.elim)).trans_new f4 (fun b _ h => .inr (hvb b h))
  rw [s_st1 _ _ _ hH.one, v4, okAt_cells]
  have ok : decide (0 + 1 ≤ [v].length) = true := rfl
  rw [ok, onB_true]
  have v5 : (wr W4 q 0 [vH]).heap[q]? = some (cellsO [vH] T) := by rw [heap_wr, if_pos rfl, v4, putAt_cells]; rfl
  have l5 : (wr W4 q 0 [vH]).heap[s + 1]? = some (.loop L') := by
    rw [heap_wr, if_neg (by omega)]; exact l4
  have o5 : OwnE E sz (wr W4 q 0 [vH]) vH (es ++ [x]) := hH.fr (Fr.wr (fp := fun b => b = q) W4 _ 0 [vH] rfl) (fun b hb e => by have := hvH b hb; omega)
  exact hK _ ⟨⟨vH, v5, o5, hvH⟩, ⟨L', l5, hsame, hst, hpd⟩, f5.heap hd (by omega), hfr.trans_new f5 fun b hb e => by omega, hq, hqs⟩ f5

section
variable {g : Nat} {bs : List B3} {pv fv : Value} {s : Grp}

theorem filt_snoc {pk : Lk → Bool} {l : List Lk} {i : Nat} (hi : i < l.length) : ((l.take (i + 1)).filter pk).map (·.port) = ((l.take i).filter pk).map (·.port) ++ if pk l[i] = true then [l[i].port] else [] := by
  rw [take_snoc hi, List.filter_append, List.map_append]
  congr 1
  by_cases e : pk l[i] = true
  · rw [if_pos e, List.filter_cons_of_pos e]; rfl
  · rw [if_neg e, List.filter_cons_of_neg e]; rfl

theorem ports_spec {pk : Lk → Bool} (h : CG w g bs pv s) (hn : s.l.length ≤ 32) (hone : S.oneCell fv = true) (hcs : fv.cells = [fv].toArray) (hT : Tells fv pk)
    (hk : ∀ v w', OwnE 3 1 w' v (((s.l.filter pk).map (·.port)).map cellI) → New w v → Fr none_ w w' → K v w') : opS Try.prog (S.cl 65 [pt g 0, fv]) (fun x1 => opS Try.prog (S.cl 64 [x1]) fun x2 => K x2) w := by
  simp only [push_cast, Nat.reduceAdd, Nat.reduceLeDiff, Nat.reduceLT, Int.reduceToNat, Nat.left_eq_add, Nat.add_eq_left, Nat.add_left_cancel_iff, Nat.reduceEqDiff, Nat.add_assoc, Nat.succ_ne_zero]
  refine those_spec hone hcs fun w0 q1 q2 hF0 hs0 => ?_
  simp only [push_cast, Nat.reduceAdd, Nat.reduceLeDiff, Nat.reduceLT, Int.reduceToNat, Nat.left_eq_add, Nat.add_eq_left, Nat.add_left_cancel_iff, Nat.reduceEqDiff, Nat.add_assoc, Nat.succ_ne_zero]
  apply c64
  unfold p64
  simp only [push_cast, Nat.reduceAdd, Nat.reduceLeDiff, Nat.reduceLT, Int.reduceToNat, Nat.left_eq_add, Nat.add_eq_left, Nat.add_left_cancel_iff, Nat.reduceEqDiff, Nat.add_assoc, Nat.succ_ne_zero]
  have hFa : Fr none_ w0 (w0.alloc (cellsO [.slice none 0 0] 59)) := (by repeat' first | with_reducible exact Fr.refl _ _ | with_reducible refine Fr.step_alloc ?_ ?_ | with_reducible refine Fr.step_drew ?_ | with_reducible refine Fr.step_wr ?_ ?_ _ _ | exact rfl | exact Or.inr (by omega) | exact Or.inl rfl | exact Or.inl (Or.inl rfl) | exact Or.inl (Or.inr rfl))
  have hsa : (w0.alloc (cellsO [.slice none 0 0] 59)).heap[w0.heap.size]? = some (cellsO [.slice none 0 0] 59) := by simp only [push_cast, Nat.reduceAdd, Nat.reduceLeDiff, Nat.reduceLT, Int.reduceToNat, Nat.left_eq_add, Nat.add_eq_left, Nat.add_left_cancel_iff, Nat.reduceEqDiff, Nat.add_assoc, Nat.succ_ne_zero]
  have hsz : (w0.alloc (cellsO [.slice none 0 0] 59)).heap.size = w0.heap.size + 1 := size_alloc _ _
  generalize hw1 : w0.alloc (cellsO [.slice none 0 0] 59) = w1 at *
  have hF := hF0.trans hFa
  have q1 := hFa.heap q1 fun h => h
  have q2 := hFa.heap q2 fun h => h
  generalize hqe : w0.heap.size = q at *
  generalize hce : w.heap.size = c1 at *
  intro L hL1 hL2 hL3 hyield
  rw [enterS_call]
  have hC := CJ.start (E := 3) (sz := 1) (T := 59) (w0 := w0) hL1 hL3 hsa (own_nil _ _ _) rfl hFa (by omega)
  have hF2 : Fr none_ w1 ((w1.alloc (.deferred (some []))).alloc (.loop L)) := ((Fr.refl _ _).step_alloc rfl).step_alloc rfl
  generalize hW : (w1.alloc (.deferred (some []))).alloc (.loop L) = W0 at *
  generalize hsb : w1.heap.size = sb at *
  have hnq : ∀ y, fG g bs y → y < c1 := fun y hy => by rw [← hce]; exact h.lt y hy
  have hpvlt : ∀ y, s.l.length ≠ 0 → blkS pv = some y → y < c1 := fun y hne hy => by
    rw [← hce]
    obtain ⟨h1, h2⟩ := h.pvs
    rcases h1 with ⟨_, h1, _⟩ | ⟨b, o, c, cs, Tc, fz, rfl, hb, _⟩
    · rw [List.length_map, h.len] at h1; exact absurd h1 hne
    · cases hy; exact lt_of_heap hb
  have hgo : ∀ W, Fr none_ w W → CG W g bs pv s := fun W f => h.fr0 f
  refine those1_spec (bs := bs) (pv := pv) (fv := fv) (g := g) (n := s.l.length) (fun i W => CJ 3 1 59 w0 q sb L false ((((s.l.take i).filter pk).map (·.port)).map cellI) W ∧ Fr none_ w W)
    (fun W => False) (fun i => match s.l[i]? with | some x => pk x | none => false) ?_ ?_ hn ?_ ?_ ?_ ?_ ?_
  · rintro i W ⟨hI, f⟩
    have f1 : Fr none_ w0 W := hI.fr
    refine ⟨?_, ?_⟩
    · have : w0.heap[c1]? = some (cellsO [pt g 0] 54) := by rw [← hw1, heap_alloc_lt (by omega)] at q1; exact q1
      exact f1.heap this fun h => h
    · have : w0.heap[c1 + 1]? = some (cellsO [fv] 136) := by rw [← hw1, heap_alloc_lt (by omega)] at q2; exact q2
      exact f1.heap this fun h => h
  · rintro i W ⟨_, a⟩; exact ⟨s, h.fr0 a, rfl⟩
  · rintro i t W R hi ht ⟨hI, f⟩ hR
    have hx : s.l[i]? = some s.l[i] := List.getElem?_eq_getElem hi
    refine hT t _ W R ((h.fr0 f).lk i t _ ht hx) fun W' f' => ?_
    have := hR W' ⟨hI.stay f', f.trans f'⟩
    rw [hx] at this
    exact this
  · rintro i W hi hp ⟨hI, f⟩
    have hx : s.l[i]? = some s.l[i] := List.getElem?_eq_getElem hi
    rw [hx] at hp
    refine ⟨?_, f⟩
    rw [filt_snoc hi, if_neg (by rw [show pk s.l[i] = false from hp]; decide), List.append_nil]
    exact hI
  · rintro i t W KY hi ht hp ⟨hI, f⟩ hR _
    have hx : s.l[i]? = some s.l[i] := List.getElem?_eq_getElem hi
    rw [hx] at hp
    obtain ⟨L', hlb, hsame, hst, hpd⟩ := hI.loop
    refine hyield KY [pt t.b 0] W L' hst hsame hlb rfl ?_
    have hl := (h.fr0 f).lk i t _ ht hx
    have hlen : ((((s.l.take i).filter pk).map (·.port)).map cellI).length ≤ i := by
      rw [List.length_map, List.length_map]
      exact Nat.le_trans (List.length_filter_le _ _) (by rw [List.length_take]; omega)
    have hR' : ∀ W2, CJ 3 1 59 w0 q sb L false (((((s.l.take i).filter pk).map (·.port)).map cellI) ++ [cellI s.l[i].port]) W2 → KY (.bool true) W2 := fun W2 hI2 => by
      refine hR W2 ⟨?_, hF0.trans hI2.fr⟩
      rw [filt_snoc hi, if_pos hp, List.map_append]
      exact hI2
    show opS Try.prog (S.beginR (pt (sb + 1) 0)) _ W
    refine cj_begin hI fun W2 hI2 f2 => ?_
    have hl2 : CLk W2 t s.l[i] := hl.fr f2 fun y hy e => by
      have := hl.lt y hy
      have h3 := (h.lk i t _ ht hx).lt y hy
      omega
    simp only [push_cast, Nat.reduceAdd, Nat.reduceLeDiff, Nat.reduceLT, Int.reduceToNat, Nat.left_eq_add, Nat.add_eq_left, Nat.add_left_cancel_iff, Nat.reduceEqDiff, Nat.add_assoc, Nat.succ_ne_zero, hl2.b]
    have hId := hI2.stay (Fr.drew W2)
    refine allW_intro ?_ ?_
    · refine cj_append (T := 59) (E := 3) (sz := 1) (by_ := 8) (z := .int .i64 0) (x := cellI s.l[i].port) (fun K hk => s_bs1c (z := .int .i64 0) rfl rfl hk) rfl rfl (by decide) (by omega) hId fun W3 hI3 f3 => ?_
      exact cj_endR hI3 fun W4 hI4 f4 => hR' W4 hI4
    · refine cj_append2 (T := 59) (E := 3) (sz := 1) (by_ := 8) (z := .int .i64 0) (x := cellI s.l[i].port) (mid := fun K => opS Try.prog (S.buildS 59 1 [(0, i64 s.l[i].port)]) K) (fun K hk => s_bs1c (z := .int .i64 0) rfl rfl hk) rfl rfl (by decide) (by omega) hId fun W3 hI3 f3 => ?_
      exact cj_endR hI3 fun W4 hI4 f4 => hR' W4 hI4
  · exact ⟨hC, hF.trans hF2⟩
  · rintro W (⟨hI, f⟩ | hZ)
    · rw [List.take_length] at hI
      obtain ⟨v, w3, hrun, hs3, hv3, hb3, hd3, hF3, hF4⟩ := cj_end Try.prog hI
      refine ⟨none, w3, hrun, ?_⟩
      simp only [push_cast, Nat.reduceAdd, Nat.reduceLeDiff, Nat.reduceLT, Int.reduceToNat, Nat.left_eq_add, Nat.add_eq_left, Nat.add_left_cancel_iff, Nat.reduceEqDiff, Nat.add_assoc, Nat.succ_ne_zero, hs3]
      show opS Try.prog (S.take (pt sb 0)) _ _
      rw [opS_take hd3]
      refine hk v _ (upd_own hv3 fun b hb e => ?_) (fun b hb => ?_) ((hF0.trans hF3).step_upd hd3 rfl _ rfl (.inr (by omega)))
      · have := hb3 _ hb; omega
      · have := hb3 _ hb; omega
    · exact hZ.elim

theorem up_spec (h : CG w g bs pv s) (hn : s.l.length ≤ 32) (hk : ∀ v w', OwnE 3 1 w' v (s.up.map cellI) → New w v → Fr none_ w w' → K v w') : CallsR Try.prog 23 #[pt g 0] K w := by
  apply c23
  unfold p23
  exact ports_spec h hn rfl rfl tells_up hk
end

end Go.Gx.S
end
