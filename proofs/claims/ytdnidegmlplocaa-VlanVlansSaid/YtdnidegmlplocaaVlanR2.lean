/- Steps that come in, and the laws on the VLANs that have members. -/
import Derived.Test.YtdnidegmlplocaaVlanR
import Derived.Test.YtdnidegmlplocaaVlan7
